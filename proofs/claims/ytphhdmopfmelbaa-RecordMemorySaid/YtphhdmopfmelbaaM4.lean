/- Joined texts: RecPlayA RecPlayB RecPlay Plain12. -/
import Derived.Test.YtphhdmopfmelbaaM2
import Derived.Test.YtphhdmopfmelbaaM3

/- record: Play, what it computes; what holds while it goes. No walk but NewTape, Kinds. -/
namespace Go.Proofs.Ytphhdmopfmelbaa
open Go.RowKit Go.Proofs.YtphhdmopfmelbaaW.PrintWords
set_option linter.unusedVariables false
set_option linter.unusedSimpArgs false

/-- An act. -/
structure ActD where
  k : Int
  at_ : Int
  a : Int
  b : Int
  c : Int
abbrev ActD.cells (x : ActD) : List Value := [.int .i64 x.k, .int .i64 x.at_, .int .i64 x.a, .int .i64 x.b, .int .i64 x.c]
abbrev ActD.val (x : ActD) : Value := .agg #[.int .i64 x.k, .int .i64 x.at_, .int .i64 x.a, .int .i64 x.b, .int .i64 x.c]
/-- A slice of acts, as it is read. -/
def ActsAt (w : World) (A : Option Addr) (l : List ActD) : Prop := 0 < l.length → ∃ b o, A = some ⟨b, o, none⟩ ∧ ∀ (j : Nat) x, l[j]? = some x → ∀ (i : Nat) u, x.cells[i]? = some u → w.cell? ⟨b, o + j * 5 + i, none⟩ = some u
theorem ActsAt.below {w w' : World} {A : Option Addr} {l : List ActD} (h : ActsAt w A l) (hb : Below w.heap.size w w') : ActsAt w' A l := fun hl => by
  obtain ⟨b, o, e, hc⟩ := h hl
  exact ⟨b, o, e, fun j x hx i u hu => pw_cell_below hb (hc j x hx i u hu)⟩
theorem ActsAt.at_ {w : World} {A : Option Addr} {l : List ActD} (h : ActsAt w A l) {j : Nat} (hj : j < l.length) : ∃ b o, A = some ⟨b, o, none⟩ ∧ w.cell? ⟨b, o + j * 5, none⟩ = some (.int .i64 l[j].k) ∧ w.cell? ⟨b, o + j * 5 + 1, none⟩ = some (.int .i64 l[j].at_) ∧ w.cell? ⟨b, o + j * 5 + 2, none⟩ = some (.int .i64 l[j].a) ∧ w.cell? ⟨b, o + j * 5 + 3, none⟩ = some (.int .i64 l[j].b) ∧ w.cell? ⟨b, o + j * 5 + 4, none⟩ = some (.int .i64 l[j].c) := by
  obtain ⟨b, o, e, hc⟩ := h (by omega)
  have hx := hc j l[j] (List.getElem?_eq_getElem hj)
  exact ⟨b, o, e, hx 0 _ rfl, hx 1 _ rfl, hx 2 _ rfl, hx 3 _ rfl, hx 4 _ rfl⟩

/-- The acts one behind the other: the answers, the world behind them. -/
def runD : WD → List ActD → List Int × WD
  | d, [] => ([], d)
  | d, x :: l => ((doD d x.k x.at_ x.a x.b x.c).1 :: (runD (doD d x.k x.at_ x.a x.b x.c).2 l).1, (runD (doD d x.k x.at_ x.a x.b x.c).2 l).2)
theorem runD_append (d : WD) (l m : List ActD) : runD d (l ++ m) = ((runD d l).1 ++ (runD (runD d l).2 m).1, (runD (runD d l).2 m).2) := by
  induction l generalizing d with
  | nil => rfl
  | cons x l ih => simp only [List.cons_append, runD, ih]
theorem runD_length (d : WD) (l : List ActD) : (runD d l).1.length = l.length := by
  induction l generalizing d with
  | nil => rfl
  | cons x l ih => simp [runD, ih]
def kinds (l : List ActD) : List Int := l.map fun x => kd x.k
/-- The first act that is refused: its error. -/
def refusedD (d : WD) : List ActD → Int
  | [] => 0
  | x :: l => if refD d x.k x.at_ x.a x.b x.c = 0 then refusedD d l else refD d x.k x.at_ x.a x.b x.c
theorem refusedD_hit (d : WD) (l : List ActD) {j : Nat} (hj : j < l.length) (hn : ∀ i, i < j → ∀ x, l[i]? = some x → refD d x.k x.at_ x.a x.b x.c = 0) (h : refD d l[j].k l[j].at_ l[j].a l[j].b l[j].c ≠ 0) : refusedD d l = refD d l[j].k l[j].at_ l[j].a l[j].b l[j].c := by
  induction l generalizing j with
  | nil => simp at hj
  | cons x l ih =>
    unfold refusedD
    cases j with
    | zero => exact if_neg (show refD d x.k x.at_ x.a x.b x.c ≠ 0 from h)
    | succ j =>
      rw [if_pos (hn 0 (by omega) x rfl)]
      exact ih (by simpa using hj) (fun i hi y hy => hn (i + 1) (by omega) y (by simpa using hy)) h
theorem refusedD_none (d : WD) (l : List ActD) (hn : ∀ i, i < l.length → ∀ x, l[i]? = some x → refD d x.k x.at_ x.a x.b x.c = 0) : refusedD d l = 0 := by
  induction l with
  | nil => rfl
  | cons x l ih =>
    unfold refusedD
    rw [if_pos (hn 0 (by simp) x rfl)]
    exact ih (fun i hi y hy => hn (i + 1) (by simpa using hi) y (by simpa using hy))
/-- Play's error. -/
def playE (d : WD) (l : List ActD) : Int := if limitsD d ≠ 0 ∨ l.length > 1000 then 2 else if formD d ≠ 0 then formD d else refusedD d l

theorem form_of {d : WD} (h1 : limitsD d = 0) (h2 : formD d = 0) : d.Form := by
  have h3 : ¬ (d.fields.length > 64 ∨ d.states.length > 64 ∨ ∃ r ∈ d.fields, r.length > 64) := fun h => by unfold limitsD at h1; rw [if_pos h] at h1; cases h1
  have h4 : formB d := by
    by_cases h : formB d
    · exact h
    · unfold formD at h2; rw [if_neg h] at h2; cases h2
  obtain ⟨e1, e2, e4, hr, hs⟩ := h4
  have hin : ∀ n lo hi, inD n lo hi = true → lo ≤ n ∧ n < hi := fun n lo hi h => by simpa [inD] using h
  refine ⟨by omega, fun r hr => ?_, by omega, e1, e2, e4, fun r hm n hn => ?_, fun n hn => ?_, fun n hn => ?_⟩
  · rcases Nat.lt_or_ge 64 r.length with h | h
    · exact absurd (.inr (.inr ⟨r, hr, h⟩)) h3
    · exact h
  · obtain ⟨i, hi⟩ := List.getElem?_of_mem hm
    have hl := (List.getElem?_eq_some_iff.1 hi).1
    have := (hr i hl).2
    rw [show d.fields.getD i [] = r by simp [List.getD_eq_getElem?_getD, hi]] at this
    unfold rowB at this
    rw [List.any_eq_false] at this
    have := this n hn
    exact hin _ _ _ (by simpa using this)
  · obtain ⟨i, hi⟩ := List.getElem?_of_mem hn
    have hl := (List.getElem?_eq_some_iff.1 hi).1
    have := (hr i (by omega)).1
    unfold infoB at this
    rw [show d.infos.getD i 0 = n by simp [List.getD_eq_getElem?_getD, hi]] at this
    exact hin _ _ _ this
  · rw [List.any_eq_false] at hs
    have := hs n hn
    exact hin _ _ _ (by simpa using this)
theorem fit_of {d : WD} {k at_ a b c : Int} (h : refD d k at_ a b c = 0) : d.Fit k at_ a b c := by
  have hin : ∀ {n lo hi}, inD n lo hi = true → lo ≤ n ∧ n < hi := fun h => by simpa [inD] using h
  unfold refD at h
  cases h1 : inD k 1 12 with
  | false => rw [if_pos h1] at h; cases h
  | true =>
    rw [if_neg (by rw [h1]; decide)] at h
    have hk := hin h1
    by_cases h7 : k ≥ 7
    · rw [if_pos h7] at h
      cases h2 : inD at_ 0 d.states.length with
      | false => rw [h2] at h; cases h
      | true =>
        have := hin h2
        exact ⟨hk.1, by omega, this.1, fun h => by omega, fun _ => this.2, fun h => by omega, fun h => by omega, fun h => by omega⟩
    · rw [if_neg h7] at h
      cases h2 : inD at_ 0 d.fields.length with
      | false => rw [if_pos h2] at h; cases h
      | true =>
        rw [if_neg (by rw [h2]; decide)] at h
        have hat := hin h2
        refine ⟨hk.1, by omega, hat.1, fun _ => hat.2, fun h => by omega, fun hk => ?_, fun hk => ?_, fun hk => ?_⟩
        · rcases hk with rfl | rfl
          · rw [if_pos rfl] at h
            cases h3 : inD a 0 (d.fields.getD at_.toNat []).length with
            | false => rw [h3] at h; cases h
            | true => exact hin h3
          · rw [if_neg (by decide), if_pos rfl] at h
            cases h3 : inD a 0 (d.fields.getD at_.toNat []).length with
            | false => rw [h3] at h; cases h
            | true => exact hin h3
        · subst hk
          rw [if_neg (by decide), if_pos rfl] at h
          cases h3 : inD a 0 (d.fields.getD at_.toNat []).length with
          | false => rw [h3] at h; cases h
          | true =>
            cases h4 : inD b (-1) d.fields.length with
            | false => rw [h3, h4] at h; cases h
            | true =>
              cases h5 : inD c (-1) d.fields.length with
              | false => rw [h3, h4, h5] at h; cases h
              | true => exact ⟨hin h4, hin h5⟩
        · subst hk
          rw [if_neg (by decide), if_neg (by decide), if_pos rfl] at h
          cases h4 : inD b (-1) d.states.length with
          | false => rw [h4] at h; cases h
          | true =>
            cases h5 : inD c 0 d.states.length with
            | false => rw [h4, h5] at h; cases h
            | true => exact ⟨hin h4, hin h5⟩
/-- What does not turn: how many, how many fields. -/
def Shape (d d' : WD) : Prop := d'.fields.length = d.fields.length ∧ d'.states.length = d.states.length ∧ ∀ i, (d'.fields.getD i []).length = (d.fields.getD i []).length
theorem Shape.refl (d : WD) : Shape d d := ⟨rfl, rfl, fun _ => rfl⟩
theorem doD_shape {d : WD} {k at_ a b c : Int} (f : d.Fit k at_ a b c) : Shape d (doD d k at_ a b c).2 := by
  unfold doD
  split
  · exact Shape.refl d
  split
  · split
    · refine ⟨by simp, rfl, fun i => ?_⟩
      rw [getD_set _ _ _ _ _ (f.row (by omega))]
      split
      · rename_i e; subst e; simp
      · rfl
    · exact Shape.refl d
  split
  · exact Shape.refl d
  split
  · split
    · exact ⟨rfl, rfl, fun _ => rfl⟩
    · exact Shape.refl d
  split
  · exact Shape.refl d
  split
  · exact ⟨rfl, rfl, fun _ => rfl⟩
  split
  · exact Shape.refl d
  split
  · exact ⟨rfl, List.length_set, fun _ => rfl⟩
  split
  · exact ⟨rfl, List.length_set, fun _ => rfl⟩
  split
  · exact Shape.refl d
  · exact ⟨rfl, rfl, fun _ => rfl⟩
theorem doD_same {d : WD} (h : d.Form) {k at_ a b c : Int} (f : d.Fit k at_ a b c) : (doD d k at_ a b c).2.fields.length = d.fields.length ∧ (doD d k at_ a b c).2.states.length = d.states.length ∧ ∀ i, ((doD d k at_ a b c).2.fields.getD i []).length = (d.fields.getD i []).length := doD_shape f
theorem Fit_same {d d' : WD} (h0 : d'.fields.length = d.fields.length) (h3 : d'.states.length = d.states.length) (hf : ∀ i, (d'.fields.getD i []).length = (d.fields.getD i []).length) {k at_ a b c : Int} (f : d.Fit k at_ a b c) : d'.Fit k at_ a b c :=
  ⟨f.k0, f.k1, f.at0, fun h => by rw [h0]; exact f.at1 h, fun h => by rw [h3]; exact f.at2 h, fun h => by rw [hf]; exact f.a0 h, fun h => by rw [h0]; exact f.b0 h, fun h => by rw [h3]; exact f.b1 h⟩
/-- While all fit the worlds stay in form. -/
theorem runD_form {d : WD} (h : d.Form) (l : List ActD) (hl : ∀ x ∈ l, d.Fit x.k x.at_ x.a x.b x.c) : (runD d l).2.Form ∧ (runD d l).2.fields.length = d.fields.length ∧ (runD d l).2.states.length = d.states.length ∧ ∀ i, ((runD d l).2.fields.getD i []).length = (d.fields.getD i []).length := by
  induction l generalizing d with
  | nil => exact ⟨h, rfl, rfl, fun _ => rfl⟩
  | cons x l ih =>
    have hx := hl x (by simp)
    obtain ⟨s1, s2, s3⟩ := doD_same h hx
    obtain ⟨r0, r1, r2, r3⟩ := ih (doD_form h hx) (fun y hy => Fit_same s1 s2 s3 (hl y (by simp [hy])))
    exact ⟨r0, r1.trans s1, r2.trans s2, fun i => (r3 i).trans (s3 i)⟩
end Go.Proofs.Ytphhdmopfmelbaa

/- record: NewTape, Kinds; what holds while Play goes. -/
namespace Go.Proofs.Ytphhdmopfmelbaa
open Go.RowKit Go.Proofs.YtphhdmopfmelbaaW.PrintWords
set_option linter.unusedVariables false
set_option linter.unusedSimpArgs false

set_option maxHeartbeats 400000 in
theorem tape_new (w : World) : Calls Try.prog 24 #[] w fun e w' => ∃ t, e = .returned (.pointer (some ⟨t, 0, none⟩)) ∧ TapeI w' w.heap.size t [] ∧ Below w.heap.size w w' := by
  have hb := Blk.new w 102 [.slice none 0 0]
  have H : TapeI (w.alloc (.cells #[.slice none 0 0] 102)) w.heap.size w.heap.size [] ∧ Below w.heap.size w (w.alloc (.cells #[.slice none 0 0] 102)) :=
    ⟨⟨.slice none 0 0, Nat.le_refl _, hb, World.ownsRow_nil _ _ _ _, by simp [Value.ownBlock]⟩, (Below.refl _ _).alloc (Nat.le_refl _) _⟩
  have H' := Lib.hid H
  clear hb H
  go_enter Try.func24, Try.ntmps24
  go_wp2
  go_ret
  exact ⟨_, rfl, H'.out⟩
set_option maxHeartbeats 400000 in
theorem tape_kinds (w : World) (B t : Nat) (ks : List Int) (h : TapeI w B t ks) (hl : ks.length ≤ 1000000000) :
    Calls Try.prog 26 #[.pointer (some ⟨t, 0, none⟩)] w fun e w' => ∃ v, e = .returned v ∧ w'.ownsRow w.heap.size TII 1 v ks.length (ks.map (Value.int .i64)) ∧ Below w.heap.size w w' := by
  obtain ⟨v, hB, hb, ho, hne⟩ := h
  obtain ⟨A, c, hv, hr, _⟩ := owns_slice ho
  have hnil : A = none → ks.length = 0 ∧ c = 0 := fun e => by
    subst e
    rcases ho.2 with ⟨h1, h2⟩ | ⟨g, cap, cur, h1, _⟩
    · rw [hv] at h1
      exact ⟨h2, (Value.slice.inj h1).2.2⟩
    · rw [hv] at h1
      exact absurd (Value.slice.inj h1).1 (by simp)
  have hc : w.cell? ⟨t, 0, none⟩ = some (.slice A ks.length c) := by rw [hb.cell 0, hv]; rfl
  have HC := Lib.hid (clone_any_int A ks.length c _ w hnil hr (by intro u hu; obtain ⟨n, _, rfl⟩ := List.mem_map.1 hu; rfl) (by omega))
  refine calls_hide fun Q HQ => ?_
  have HQ' := Lib.hid HQ
  clear HQ ho hv hr hnil hb
  go_enter Try.func26, Try.ntmps26
  go_wp2_with fail
  refine HC.out.mono ?_
  rintro e w1 ⟨A', c', rfl, h1, h2, h3, h4⟩
  have H1 := Lib.hid h1
  have H4 := Lib.hid h4
  clear h1 h2 h3 h4 HC
  go_wp2
  exact HQ'.out _ _ ⟨_, rfl, H1.out, H4.out⟩

section
variable {d d' : WD} {B B' m t : Nat} {w w' w0 w1 : World} {R : Nat → Option RecO} {X : Nat → Option ScxO} {rs fs xs : List Nat} {v1 v2 v3 ov v' : Value} {S : Nat → Prop} {ks ks' ans : List Int}
theorem LiveAt.types (h : LiveAt d B m w R X rs fs xs v1 v2 v3) (hf : Fr w w' S) (hS : ∀ k, S k → ∃ T ys, Blk w k T ys ∧ T ≠ TLV ∧ T ≠ TPR ∧ T ≠ TPX ∧ T ≠ 178 ∧ T ≠ 170 ∧ T ≠ 152) : LiveAt d B m w' R X rs fs xs v1 v2 v3 :=
  ⟨h.hr, h.hx, h.made.types hf (fun k hk => by obtain ⟨T, ys, hb, h1, h2, h3, _⟩ := hS k hk; exact ⟨T, ys, hb, h1, h2, h3⟩), h.stage.rep' (h.stage.rep.types hf (fun k hk => by obtain ⟨T, ys, hb, _, _, _, h1, h2, h3⟩ := hS k hk; exact ⟨T, ys, hb, h1, h2, h3⟩)), h.hm⟩
theorem LiveAt.lower (h : LiveAt d B' m w R X rs fs xs v1 v2 v3) (hB : B ≤ B') : LiveAt d B m w R X rs fs xs v1 v2 v3 :=
  ⟨h.hr, h.hx, ⟨h.made.blk, own_weaken h.made.o1 hB, own_weaken h.made.o2 hB, own_weaken h.made.o3 hB, h.made.ne⟩,
    ⟨h.stage.rep, h.stage.ndr, h.stage.ndx, h.stage.len, fun i b hb => by obtain ⟨fb, h1, h2⟩ := h.stage.r i b hb; exact ⟨fb, h1, Nat.le_trans hB h2⟩, h.stage.x, h.stage.f, fun b hb => Nat.le_trans hB (h.stage.lo b hb)⟩, Nat.le_trans hB h.hm⟩
theorem TapeI.lower (h : TapeI w B' t ks) (hB : B ≤ B') : TapeI w B t ks := by
  obtain ⟨v, h1, h2, h3, h4⟩ := h
  exact ⟨v, Nat.le_trans hB h1, h2, own_weaken h3 hB, h4⟩
theorem TapeI.gate (h : TapeI w B t ks) : GAtI w B (some t) ks := fun t' e => by cases e; exact h

/-- What Play holds in its second loop. -/
structure PI (w0 : World) (d : WD) (ks ans : List Int) (m t : Nat) (rs fs xs : List Nat) (v1 v2 v3 ov : Value) (w : World) : Prop where
  live : ∃ R X, LiveAt d w0.heap.size m w R X rs fs xs v1 v2 v3
  tape : TapeI w w0.heap.size t ks
  out : w.ownsRow w0.heap.size TII 1 ov ans.length (ans.map (Value.int .i64))
  apart : ∀ k, ov.ownBlock = some k → ¬ TFoot w t k
  below : Below w0.heap.size w0 w
  res : Blk w (w0.heap.size + 1) TWD [.slice none 0 0, .slice none 0 0, .slice none 0 0, .slice none 0 0, .slice none 0 0]
theorem gfoot_some {w : World} {t k : Nat} : GFoot w (some t) k ↔ TFoot w t k := ⟨fun ⟨t', e, h⟩ => by cases e; exact h, fun h => ⟨t, rfl, h⟩⟩
/-- The gate has been passed, things have turned. -/
theorem PI.act (h : PI w0 d ks ans m t rs fs xs v1 v2 v3 ov w) (hs : StepI w0.heap.size (some t) w w1 ks' (Thing w0.heap.size w)) (hl : ∃ R X, LiveAt d' w0.heap.size m w1 R X rs fs xs v1 v2 v3) : PI w0 d' ks' ans m t rs fs xs v1 v2 v3 ov w1 := by
  have hn : ∀ k, ov.ownBlock = some k → ¬ (GFoot w (some t) k ∨ Thing w0.heap.size w k) := fun k hk hx => by
    rcases hx with hx | ⟨_, T, ys, hb, hT⟩
    · exact h.apart k hk (gfoot_some.1 hx)
    · obtain ⟨c, hc⟩ := owns_typed h.out k hk
      have := (hb.inj hc).1
      rcases hT with rfl | rfl | rfl <;> exact absurd this (by decide)
  refine ⟨hl, hs.gate t rfl, owns_fr h.out hs.fr hn, fun k hk hx => ?_, h.below.trans (hs.below h.tape.gate h.below.size (fun k hk => hk.1)), hs.blk h.tape.gate h.res (by decide) (by decide) (fun ⟨_, T, ys, hb, hT⟩ => ?_)⟩
  · rcases hs.new k (gfoot_some.2 hx) with h1 | h1
    · exact h.apart k hk (gfoot_some.1 h1)
    · have := (World.ownsRow.lt h.out k hk).2; omega
  · have := (hb.inj h.res).1
    rcases hT with rfl | rfl | rfl <;> exact absurd this (by decide)
theorem PI.more (h : PI w0 d ks ans m t rs fs xs v1 v2 v3 ov w) (hb : Below w.heap.size w w1) : PI w0 d ks ans m t rs fs xs v1 v2 v3 ov w1 := by
  have hs := (gstep_below h.tape.gate hb)
  obtain ⟨R, X, hl⟩ := h.live
  refine ⟨⟨R, X, hl.below hb⟩, hs.gate t rfl, owns_fr h.out (Fr.of_below0 (S := fun _ => False) hb) (fun _ _ => id), fun k hk hx => ?_, h.below.trans (hb.mono h.below.size), (Fr.of_below0 (S := fun _ => False) hb).blk h.res id⟩
  rcases hs.new k (gfoot_some.2 hx) with h1 | h1
  · exact h.apart k hk (gfoot_some.1 h1)
  · have := (World.ownsRow.lt h.out k hk).2; omega
/-- An answer more. -/
theorem PI.push (h : PI w0 d ks ans m t rs fs xs v1 v2 v3 ov w) (hg : w.grownBy w1 ov.ownBlock) {n : Int} (ho : w1.ownsRow w0.heap.size TII 1 v' (ans.length + 1) (ans.map (Value.int .i64) ++ [.int .i64 n]))
    (hat : v'.ownBlock = ov.ownBlock ∨ ∃ b, v'.ownBlock = some b ∧ w.heap.size ≤ b) : PI w0 d ks (ans ++ [n]) m t rs fs xs v1 v2 v3 v' w1 := by
  have hf := Fr.of_grown hg
  have hs := GAt.fr (S := fun k => some k = ov.ownBlock) h.tape.gate hf (fun k hk e => h.apart k e.symm (gfoot_some.1 hk))
  obtain ⟨R, X, hl⟩ := h.live
  have hT : ∀ k, some k = ov.ownBlock → ∃ ys, Blk w k TII ys := fun k hk => owns_typed h.out k hk.symm
  refine ⟨⟨R, X, hl.types hf (fun k hk => ?_)⟩, hs.gate t rfl, by simpa using ho, fun k hk hx => ?_, h.below.trans (hf.below h.below.size (fun k hk => (World.ownsRow.lt h.out k hk.symm).1)), hf.blk h.res (fun e => ?_)⟩
  · obtain ⟨ys, hb⟩ := hT k hk
    exact ⟨_, ys, hb, by decide, by decide, by decide, by decide, by decide, by decide⟩
  · have hx' : TFoot w t k := by
      rcases hs.new k (gfoot_some.2 hx) with h1 | h1
      · exact gfoot_some.1 h1
      · obtain ⟨v, hB, hb, ho2, hne⟩ := hs.gate t rfl
        -- a block of the tape's behind the append stood before it
        exact absurd h1 (by
          have := (h.tape.gate)
          rcases hx with rfl | ⟨u, hu, hk2⟩
          · obtain ⟨_, _, hb0, _, _⟩ := h.tape
            have := hb0.lt; omega
          · obtain ⟨u0, _, hb0, ho0, _⟩ := h.tape
            have hbt := hf.blk hb0 (fun e => h.apart t e.symm (.inl rfl))
            rw [hbt.cell 0] at hu
            have : u0 = u := by simpa using hu
            subst this
            have := (World.ownsRow.lt ho0 k hk2).2; omega)
    rcases own_new hat hk with h1 | h1
    · exact h.apart k h1 hx'
    · have := (h.tape.gate.foot (gfoot_some.2 hx')).2.1; omega
  · obtain ⟨ys, hb⟩ := hT _ e
    exact absurd (hb.inj h.res).1 (by decide)
end
end Go.Proofs.Ytphhdmopfmelbaa

/- record: Play. -/
namespace Go.Proofs.Ytphhdmopfmelbaa
open Go.RowKit Go.Proofs.YtphhdmopfmelbaaW.PrintWords
set_option linter.unusedVariables false
set_option linter.unusedSimpArgs false

theorem results_tctt {P : Program} {fn : Func} {a p b c : Tmp} {ty : TypeId} (h : fn.results = #[.tmp a, .cell p ty, .tmp b, .tmp c]) (tmps : Array Value) (w : World) (g : Nat) (t : TypeId) (cs : Array Value) (fr : Nat × Nat) (d : TypeDesc)
    (hp : tmps.getD p undef = .pointer (some ⟨g, 0, none⟩)) (hg : w.heap[g]? = some (.cells cs t fr))
    (hu : P.underlying ty = some d) (hd : (match d with | .struct _ | .array _ _ => true | _ => false) = true) (hi : (P.info? ty).map (·.size) = some cs.size) :
    (results fn tmps).run P w = .ok (.tuple #[tmps.getD a undef, .agg cs, tmps.getD b undef, tmps.getD c undef]) w := by
  have hp' : tmps[p]?.getD undef = .pointer (some ⟨g, 0, none⟩) := by simpa using hp
  simp [results, h, hp', asAddr, run_loadVar_row w g t ty cs fr d hg hu hd hi]
theorem OutW.lower {B B' : Nat} {d : WD} {fv iv mv sv zv : Value} {bs : List Value} {w : World} (h : OutW B' d fv iv mv sv zv bs w) (hB : B ≤ B') : OutW B d fv iv mv sv zv bs w :=
  ⟨own_weaken h.f hB, fun i u r h1 h2 => own_weaken (h.inn i u r h1 h2) hB, h.dd, own_weaken h.i hB, own_weaken h.m hB, own_weaken h.s hB, own_weaken h.z hB, h.dib, h.dsb, h.dis, h.dmz⟩

/-- What Play gives: answers, world, kinds, each in memory of its own. -/
structure PlayOut (B : Nat) (d : WD) (l : List ActD) (ov fv iv mv sv zv kv : Value) (bs : List Value) (w : World) : Prop where
  out : w.ownsRow B TII 1 ov l.length ((runD d l).1.map (Value.int .i64))
  wld : OutW B (runD d l).2 fv iv mv sv zv bs w
  kin : w.ownsRow B TII 1 kv l.length ((kinds l).map (Value.int .i64))
  d1 : ∀ k, ov.ownBlock = some k → ¬ OutFoot fv iv mv sv zv bs k
  d2 : ∀ k, kv.ownBlock = some k → ¬ OutFoot fv iv mv sv zv bs k
  d3 : ∀ k, ov.ownBlock = some k → kv.ownBlock ≠ some k
abbrev nilV : Value := .slice none 0 0
abbrev nilW : Value := .agg #[.slice none 0 0, .slice none 0 0, .slice none 0 0, .slice none 0 0, .slice none 0 0]
def PlayPost (w0 : World) (d : WD) (l : List ActD) (e : Ending) (w' : World) : Prop :=
  Below w0.heap.size w0 w' ∧ ((playE d l ≠ 0 ∧ e = .returned (.tuple #[nilV, nilW, nilV, .int .i64 (playE d l)])) ∨
    (playE d l = 0 ∧ ∃ ov fv iv mv sv zv kv bs, e = .returned (.tuple #[ov, .agg #[fv, iv, mv, sv, zv], kv, .int .i64 0]) ∧ PlayOut w0.heap.size d l ov fv iv mv sv zv kv bs w'))

theorem runD_step (d : WD) (l : List ActD) (j : Nat) (hj : j < l.length) : runD d (l.take (j + 1)) = ((runD d (l.take j)).1 ++ [(doD (runD d (l.take j)).2 l[j].k l[j].at_ l[j].a l[j].b l[j].c).1], (doD (runD d (l.take j)).2 l[j].k l[j].at_ l[j].a l[j].b l[j].c).2) := by
  rw [← take_one' l j hj, runD_append]; rfl
theorem kinds_step (l : List ActD) (j : Nat) (hj : j < l.length) : kinds (l.take (j + 1)) = kinds (l.take j) ++ [kd l[j].k] := by
  rw [← take_one' l j hj, kinds, List.map_append]; rfl
theorem limits_cases (d : WD) : limitsD d = 0 ∨ limitsD d = 2 := by unfold limitsD; split <;> simp
theorem form_cases (d : WD) : formD d = 0 ∨ formD d = 3 := by unfold formD; split <;> simp
abbrev zero5 : List Value := [.slice none 0 0, .slice none 0 0, .slice none 0 0, .slice none 0 0, .slice none 0 0]
/-- Behind the store of an empty world. -/
theorem fail_end {w w1 : World} {g : Nat} (hb : Blk w1 g TWD zero5) (hB : Below w.heap.size w w1) (hg : w.heap.size ≤ g) (wz : World)
    (e : wz = ((((w1.setCell ⟨g, 0, none⟩ (.slice none 0 0)).setCell ⟨g, 1, none⟩ (.slice none 0 0)).setCell ⟨g, 2, none⟩ (.slice none 0 0)).setCell ⟨g, 3, none⟩ (.slice none 0 0)).setCell ⟨g, 4, none⟩ (.slice none 0 0)) :
    wz.heap[g]? = some (.cells #[.slice none 0 0, .slice none 0 0, .slice none 0 0, .slice none 0 0, .slice none 0 0] TWD (0, 0)) ∧ Below w.heap.size w wz := by
  subst e
  refine ⟨((((hb.set 0 (.slice none 0 0)).set 1 (.slice none 0 0)).set 2 (.slice none 0 0)).set 3 (.slice none 0 0)).set 4 (.slice none 0 0), ?_⟩
  have hf : Fr w1 _ (fun k => k = g) := (((((Fr.refl w1 (fun k => k = g)).setCell ⟨g, 0, none⟩ (.slice none 0 0) (fun _ => rfl)).setCell ⟨g, 1, none⟩ (.slice none 0 0) (fun _ => rfl)).setCell ⟨g, 2, none⟩ (.slice none 0 0) (fun _ => rfl)).setCell ⟨g, 3, none⟩ (.slice none 0 0) (fun _ => rfl)).setCell ⟨g, 4, none⟩ (.slice none 0 0) (fun _ => rfl)
  exact hB.trans (hf.below hB.size (fun k hk => hk ▸ hg))

theorem res_end {w1 : World} {g : Nat} (hb : Blk w1 g TWD zero5) (a b c d f : Value) (wz : World)
    (e : wz = ((((w1.setCell ⟨g, 0, none⟩ a).setCell ⟨g, 1, none⟩ b).setCell ⟨g, 2, none⟩ c).setCell ⟨g, 3, none⟩ d).setCell ⟨g, 4, none⟩ f) :
    wz.heap[g]? = some (.cells #[a, b, c, d, f] TWD (0, 0)) ∧ Fr w1 wz (fun k => k = g) := by
  subst e
  exact ⟨((((hb.set 0 a).set 1 b).set 2 c).set 3 d).set 4 f,
    (((((Fr.refl w1 (fun k => k = g)).setCell ⟨g, 0, none⟩ a (fun _ => rfl)).setCell ⟨g, 1, none⟩ b (fun _ => rfl)).setCell ⟨g, 2, none⟩ c (fun _ => rfl)).setCell ⟨g, 3, none⟩ d (fun _ => rfl)).setCell ⟨g, 4, none⟩ f (fun _ => rfl)⟩
theorem play_end {w0 wr w3 w4 : World} {d : WD} {l : List ActD} {ks : List Int} {dj : WD} {m t : Nat} {rs fs xs : List Nat} {v1 v2 v3 ov fv iv mv sv zv kv : Value} {bs : List Value}
    (hkb : Below w3.heap.size w3 w4) (hko : w4.ownsRow w3.heap.size TII 1 kv (kinds l).length ((kinds l).map (Value.int .i64))) (hb : Below wr.heap.size wr w3) (hou : OutW wr.heap.size (runD d l).2 fv iv mv sv zv bs w3)
    (h : PI w0 dj ks (runD d l).1 m t rs fs xs v1 v2 v3 ov wr) (hp : playE d l = 0) (wz : World) (hf : Fr w4 wz (fun k => k = w0.heap.size + 1)) :
    PlayPost w0 d l (.returned (.tuple #[ov, .agg #[fv, iv, mv, sv, zv], kv, .int .i64 0])) wz := by
  have hs0 := h.below.size
  have hs1 := hb.size
  have hs2 := hkb.size
  have hlen := runD_length d l
  have hkl : (kinds l).length = l.length := by simp [kinds]
  have hres : Blk w4 (w0.heap.size + 1) TWD zero5 := (Fr.of_below0 (S := fun _ => False) hkb).blk ((Fr.of_below0 (S := fun _ => False) hb).blk h.res id) id
  have hout : w4.ownsRow w0.heap.size TII 1 ov (runD d l).1.length ((runD d l).1.map (Value.int .i64)) := owns_fr (owns_fr h.out (Fr.of_below0 (S := fun _ => False) hb) (fun _ _ => id)) (Fr.of_below0 (S := fun _ => False) hkb) (fun _ _ => id)
  have hn : ∀ {B e n : Nat} {v : Value} {us : List Value}, w4.ownsRow B e 1 v n us → e ≠ TWD → wz.ownsRow B e 1 v n us := fun ho he => owns_fr ho hf (fun k hk e2 => by
    obtain ⟨c, hc⟩ := owns_typed ho k hk
    subst e2
    exact he (hc.inj hres).1)
  have hou4 := hou.below hkb
  refine ⟨((h.below.trans (hb.mono hs0)).trans (hkb.mono (Nat.le_trans hs0 hs1))).trans (hf.below (by omega) (fun k hk => by omega)), .inr ⟨hp, ov, fv, iv, mv, sv, zv, kv, bs, rfl, ?_⟩⟩
  refine ⟨by rw [← hlen]; exact hn hout (by decide), (hou4.other hf (fun k hk => ⟨TWD, _, hk ▸ hres, by decide, by decide, by decide⟩)).lower hs0, by rw [← hkl]; exact own_weaken (hn hko (by decide)) (by omega), fun k hk hx => ?_, fun k hk hx => ?_, fun k hk hx => ?_⟩
  · have h1 := (hou.foot hx).1
    have h2 := (World.ownsRow.lt h.out k hk).2; omega
  · have h1 := (hou.foot hx).2.1
    have h2 := (World.ownsRow.lt hko k hk).1; omega
  · have h1 := (World.ownsRow.lt h.out k hk).2
    have h2 := (World.ownsRow.lt hko k hx).1; omega

set_option maxHeartbeats 4000000 in
set_option maxRecDepth 100000 in
theorem rec_play (w : World) (v : WV) (d : WD) (hv : v.Reads w d) (hl : d.fields.length < 100000000) (hl3 : d.states.length < 100000000) (hr : ∀ r ∈ d.fields, r.length < 100000000) (A : Option Addr) (c : Nat) (l : List ActD) (ha : ActsAt w A l) (hll : l.length < 100000000) :
    Calls Try.prog 17 #[v.val d, .slice A l.length c] w (PlayPost w d l) := by
  refine calls_hide fun Q HQ => ?_
  have HQ' := Lib.hid HQ
  have HV := Lib.hid hv
  have HRr := Lib.hid hr
  have HA := Lib.hid ha
  have hba := ((Below.refl w.heap.size w).alloc (Nat.le_refl _) (.cells (v.cells d).toArray TWD)).alloc (by simp) (.cells #[.slice none 0 0, .slice none 0 0, .slice none 0 0, .slice none 0 0, .slice none 0 0] TWD)
  have hb1 := (Blk.new w TWD (v.cells d)).alloc (.cells #[.slice none 0 0, .slice none 0 0, .slice none 0 0, .slice none 0 0, .slice none 0 0] TWD)
  have hb2 := Blk.new (w.alloc (.cells (v.cells d).toArray TWD)) TWD [.slice none 0 0, .slice none 0 0, .slice none 0 0, .slice none 0 0, .slice none 0 0]
  rw [World.size_alloc] at hb2
  have HBA := Lib.hid hba
  have HB1 := Lib.hid hb1
  have HB2 := Lib.hid (show Blk ((w.alloc (.cells (v.cells d).toArray TWD)).alloc (.cells #[.slice none 0 0, .slice none 0 0, .slice none 0 0, .slice none 0 0, .slice none 0 0] TWD)) (w.heap.size + 1) TWD _ from hb2)
  clear HQ hv hr ha hba hb1 hb2
  go_enter Try.func17, Try.ntmps17
  go_wp2_with fail
  have HLIM := Lib.hid (rec_limits _ v d (HV.out.below (HBA.out.mono (Nat.le_refl _))) (by omega))
  generalize (w.alloc (.cells (v.cells d).toArray TWD)).alloc (.cells #[.slice none 0 0, .slice none 0 0, .slice none 0 0, .slice none 0 0, .slice none 0 0] TWD) = wA at *
  refine HLIM.out.mono ?_
  rintro e w1 ⟨rfl, hbl⟩
  have HBW := Lib.hid (HBA.out.trans (hbl.mono HBA.out.size))
  have HB3 := Lib.hid ((Fr.of_below0 (S := fun _ => False) hbl).blk HB1.out id)
  have HB4 := Lib.hid ((Fr.of_below0 (S := fun _ => False) hbl).blk HB2.out id)
  clear HB1 HB2 HBA hbl HLIM
  have hr0 := HB4.out.cell 0
  have hr1 := HB4.out.cell 1
  have hr2 := HB4.out.cell 2
  have hr3 := HB4.out.cell 3
  have hr4 := HB4.out.cell 4
  have hf0 := HB4.out.free ⟨w.heap.size + 1, 0, none⟩ rfl
  have hf1 := HB4.out.free ⟨w.heap.size + 1, 1, none⟩ rfl
  have hf2 := HB4.out.free ⟨w.heap.size + 1, 2, none⟩ rfl
  have hf3 := HB4.out.free ⟨w.heap.size + 1, 3, none⟩ rfl
  have hf4 := HB4.out.free ⟨w.heap.size + 1, 4, none⟩ rfl
  have hb0 := HB3.out.cell 0
  have hb1 := HB3.out.cell 1
  have hb2 := HB3.out.cell 2
  have hb3 := HB3.out.cell 3
  have hb4 := HB3.out.cell 4
  simp only [List.getElem?_cons_zero, List.getElem?_cons_succ] at hr0 hr1 hr2 hr3 hr4 hb0 hb1 hb2 hb3 hb4
  have HEND := Lib.hid (fun wz e => fail_end HB4.out HBW.out (Nat.le_succ _) wz e)
  by_cases hbig : limitsD d ≠ 0 ∨ l.length > 1000
  · have hp : playE d l = 2 := by unfold playE; rw [if_pos hbig]
    have HPP := Lib.hid (show ∀ wz, Below w.heap.size w wz → PlayPost w d l (.returned (.tuple #[nilV, nilW, nilV, .int .i64 2])) wz from fun wz hb => ⟨hb, .inl ⟨by rw [hp]; decide, by rw [hp]⟩⟩)
    clear hp
    rcases limits_cases d with hL | hL
    · have hll2 : l.length > 1000 := by
        rcases hbig with h | h
        · exact absurd hL h
        · exact h
      rw [hL]
      clear hbig hL
      go_wp2
      (try simp only [Exit.inBlock, Exit.then])
      refine bodyPost_ret (results_tctt rfl _ _ (w.heap.size + 1) TWD _ (0, 0) _ rfl (HEND.out _ rfl).1 Try.underlying36 rfl wsize) rfl ?_
      exact HQ'.out _ _ (HPP.out _ (HEND.out _ rfl).2)
    · rw [hL]
      clear hbig hL
      go_wp2
      (try simp only [Exit.inBlock, Exit.then])
      refine bodyPost_ret (results_tctt rfl _ _ (w.heap.size + 1) TWD _ (0, 0) _ rfl (HEND.out _ rfl).1 Try.underlying36 rfl wsize) rfl ?_
      exact HQ'.out _ _ (HPP.out _ (HEND.out _ rfl).2)
  have hL : limitsD d = 0 := by rcases limits_cases d with h | h; exact h; exact absurd (.inl (by omega)) hbig
  have hl1000 : l.length ≤ 1000 := by rcases Nat.lt_or_ge 1000 l.length with h | h; exact absurd (.inr h) hbig; exact h
  have HL0 := Lib.hid hL
  rw [hL]
  have HFORM := Lib.hid (rec_form w1 v d (HV.out.below HBW.out) (by omega) (by omega) (fun r hr => by have := HRr.out r hr; omega))
  clear hL hbig
  go_wp2_with fail
  refine HFORM.out.mono ?_
  rintro e w2 ⟨rfl, hbl⟩
  have HBW2 := Lib.hid (HBW.out.trans (hbl.mono HBW.out.size))
  have HB5 := Lib.hid ((Fr.of_below0 (S := fun _ => False) hbl).blk HB3.out id)
  have HB6 := Lib.hid ((Fr.of_below0 (S := fun _ => False) hbl).blk HB4.out id)
  clear HBW HB3 HB4 hbl HFORM HEND hr0 hr1 hr2 hr3 hr4 hf0 hf1 hf2 hf3 hf4 hb0 hb1 hb2 hb3 hb4
  have hr0 := HB6.out.cell 0
  have hr1 := HB6.out.cell 1
  have hr2 := HB6.out.cell 2
  have hr3 := HB6.out.cell 3
  have hr4 := HB6.out.cell 4
  have hf0 := HB6.out.free ⟨w.heap.size + 1, 0, none⟩ rfl
  have hf1 := HB6.out.free ⟨w.heap.size + 1, 1, none⟩ rfl
  have hf2 := HB6.out.free ⟨w.heap.size + 1, 2, none⟩ rfl
  have hf3 := HB6.out.free ⟨w.heap.size + 1, 3, none⟩ rfl
  have hf4 := HB6.out.free ⟨w.heap.size + 1, 4, none⟩ rfl
  have hb0 := HB5.out.cell 0
  have hb1 := HB5.out.cell 1
  have hb2 := HB5.out.cell 2
  have hb3 := HB5.out.cell 3
  have hb4 := HB5.out.cell 4
  simp only [List.getElem?_cons_zero, List.getElem?_cons_succ] at hr0 hr1 hr2 hr3 hr4 hb0 hb1 hb2 hb3 hb4
  have HEND := Lib.hid (fun wz e => fail_end HB6.out HBW2.out (Nat.le_succ _) wz e)
  by_cases hF : formD d = 0
  case neg =>
    have hF3 : formD d = 3 := by rcases form_cases d with h | h; exact absurd h hF; exact h
    have hp : playE d l = 3 := by unfold playE; rw [if_neg (fun h => by rcases h with h | h; exact h HL0.out; omega), if_pos hF, hF3]
    have HPP := Lib.hid (show ∀ wz, Below w.heap.size w wz → PlayPost w d l (.returned (.tuple #[nilV, nilW, nilV, .int .i64 3])) wz from fun wz hb => ⟨hb, .inl ⟨by rw [hp]; decide, by rw [hp]⟩⟩)
    rw [hF3]
    clear hp hF hF3
    go_wp2
    (try simp only [Exit.inBlock, Exit.then])
    refine bodyPost_ret (results_tctt rfl _ _ (w.heap.size + 1) TWD _ (0, 0) _ rfl (HEND.out _ rfl).1 Try.underlying36 rfl wsize) rfl ?_
    exact HQ'.out _ _ (HPP.out _ (HEND.out _ rfl).2)
  rw [hF]
  have HFF := Lib.hid (form_of HL0.out hF)
  have HP0 := Lib.hid (show playE d l = refusedD d l by unfold playE; rw [if_neg (fun h => by rcases h with h | h; exact h HL0.out; omega), if_neg (by rw [hF]; decide)])
  clear hF HEND hr0 hr1 hr2 hr3 hr4 hf0 hf1 hf2 hf3 hf4 hb0 hb1 hb2 hb3 hb4
  go_wp2
  go_loopw [34] (fun k wr => ∃ j : Nat, j ≤ l.length ∧ k = .int .i64 j ∧ (∀ i, i < j → ∀ x, l[i]? = some x → refD d x.k x.at_ x.a x.b x.c = 0) ∧ Below w.heap.size w wr ∧ Blk wr w.heap.size TWD (v.cells d) ∧ Blk wr (w.heap.size + 1) TWD zero5) (fun k _ => l.length - (intOf k).toNat)
  case atStart => exact ⟨0, Nat.zero_le _, rfl, fun i hi => absurd hi (Nat.not_lt_zero i), HBW2.out, HB5.out, HB6.out⟩
  case round =>
    clear HBW2 HB5 HB6
    obtain ⟨j, hj, rfl, hok, hB, hk1, hk2⟩ := hrel
    have HOK := Lib.hid hok
    have HBW := Lib.hid hB
    have HB3 := Lib.hid hk1
    have HB4 := Lib.hid hk2
    clear hok hB hk1 hk2
    by_cases hlt : j < l.length
    · obtain ⟨ab, ao, hAd, ha0, ha1, ha2, ha3, ha4⟩ := (HA.out.below HBW.out).at_ hlt
      subst hAd
      have HJ := Lib.hid (List.getElem?_eq_getElem hlt)
      have HHIT := Lib.hid (refusedD_hit d l hlt HOK.out)
      generalize l[j] = x at *
      have hba := (Below.refl wr.heap.size wr).alloc (Nat.le_refl _) (.cells #[.int .i64 x.k, .int .i64 x.at_, .int .i64 x.a, .int .i64 x.b, .int .i64 x.c] 65)
      have HBA := Lib.hid hba
      have hbk := HB3.out.alloc (.cells #[.int .i64 x.k, .int .i64 x.at_, .int .i64 x.a, .int .i64 x.b, .int .i64 x.c] 65)
      have hw0 := hbk.cell 0
      have hw1 := hbk.cell 1
      have hw2 := hbk.cell 2
      have hw3 := hbk.cell 3
      have hw4 := hbk.cell 4
      simp only [List.getElem?_cons_zero, List.getElem?_cons_succ] at hw0 hw1 hw2 hw3 hw4
      have HREF := Lib.hid (rec_refused _ v d (HV.out.below (HBW.out.trans (hba.mono HBW.out.size))) (by omega) (by omega) (fun r hr => by have := HRr.out r hr; omega) x.k x.at_ x.a x.b x.c)
      have HB5 := Lib.hid hbk
      have HB6 := Lib.hid (HB4.out.alloc (.cells #[.int .i64 x.k, .int .i64 x.at_, .int .i64 x.a, .int .i64 x.b, .int .i64 x.c] 65))
      clear hba hbk
      go_wp2_with fail
      generalize wr.alloc (.cells #[.int .i64 x.k, .int .i64 x.at_, .int .i64 x.a, .int .i64 x.b, .int .i64 x.c] 65) = wA at *
      refine HREF.out.mono ?_
      rintro e w2 ⟨rfl, hbl⟩
      have HBW2 := Lib.hid ((HBW.out.trans (HBA.out.mono HBW.out.size)).trans (hbl.mono (by have := HBW.out.size; have := HBA.out.size; omega)))
      have HB7 := Lib.hid ((Fr.of_below0 (S := fun _ => False) hbl).blk HB5.out id)
      have HB8 := Lib.hid ((Fr.of_below0 (S := fun _ => False) hbl).blk HB6.out id)
      clear HBW HB3 HB4 HB5 HB6 hbl HREF HBA hw0 hw1 hw2 hw3 hw4 ha0 ha1 ha2 ha3 ha4
      have hr0 := HB8.out.cell 0
      have hr1 := HB8.out.cell 1
      have hr2 := HB8.out.cell 2
      have hr3 := HB8.out.cell 3
      have hr4 := HB8.out.cell 4
      have hf0 := HB8.out.free ⟨w.heap.size + 1, 0, none⟩ rfl
      have hf1 := HB8.out.free ⟨w.heap.size + 1, 1, none⟩ rfl
      have hf2 := HB8.out.free ⟨w.heap.size + 1, 2, none⟩ rfl
      have hf3 := HB8.out.free ⟨w.heap.size + 1, 3, none⟩ rfl
      have hf4 := HB8.out.free ⟨w.heap.size + 1, 4, none⟩ rfl
      simp only [List.getElem?_cons_zero, List.getElem?_cons_succ] at hr0 hr1 hr2 hr3 hr4
      have HEND := Lib.hid (fun wz e => fail_end HB8.out HBW2.out (Nat.le_succ _) wz e)
      by_cases hR : refD d x.k x.at_ x.a x.b x.c = 0
      · have HOK2 := Lib.hid (show ∀ i, i < j + 1 → ∀ y, l[i]? = some y → refD d y.k y.at_ y.a y.b y.c = 0 from fun i hi y hy => by
          rcases Nat.lt_or_ge i j with h | h
          · exact HOK.out i h y hy
          · have : i = j := by omega
            subst this
            rw [HJ.out] at hy; cases hy; exact hR)
        rw [hR]
        clear hR
        go_wp2
        go_roundw
        case rel => exact ⟨j + 1, by omega, by go_num, HOK2.out, HBW2.out, HB7.out, HB8.out⟩
        case measure => simp [intOf]; omega
      · have hp := HHIT.out hR
        have HPP := Lib.hid (show ∀ wz, Below w.heap.size w wz → PlayPost w d l (.returned (.tuple #[nilV, nilW, nilV, .int .i64 (refD d x.k x.at_ x.a x.b x.c)])) wz from fun wz hb => ⟨hb, .inl ⟨by rw [HP0.out, hp]; exact hR, by rw [HP0.out, hp]⟩⟩)
        clear hp
        generalize refD d x.k x.at_ x.a x.b x.c = rr at *
        go_wp2
        (try simp only [Exit.inBlock, Exit.then])
        refine bodyPost_ret (results_tctt rfl _ _ (w.heap.size + 1) TWD _ (0, 0) _ rfl (HEND.out _ rfl).1 Try.underlying36 rfl wsize) rfl ?_
        exact HQ'.out _ _ (HPP.out _ (HEND.out _ rfl).2)
    · have hje : j = l.length := by omega
      subst hje
      have HP1 := Lib.hid (show playE d l = 0 by rw [HP0.out]; exact refusedD_none d l HOK.out)
      have HFIT := Lib.hid (show ∀ x ∈ l, d.Fit x.k x.at_ x.a x.b x.c from fun x hx => by
        obtain ⟨i, hi⟩ := List.getElem?_of_mem hx
        exact fit_of (HOK.out i (List.getElem?_eq_some_iff.1 hi).1 x hi))
      have hf := HFF.out
      have HMADE := Lib.hid (rec_made wr v d (HV.out.below HBW.out) hf.l0 hf.l1 hf.l3 hf.e1 hf.e2 hf.e4 hf.hF hf.hI hf.hS)
      have hb0 := HB3.out.cell 0
      have hb1 := HB3.out.cell 1
      have hb2 := HB3.out.cell 2
      have hb3 := HB3.out.cell 3
      have hb4 := HB3.out.cell 4
      simp only [List.getElem?_cons_zero, List.getElem?_cons_succ] at hb0 hb1 hb2 hb3 hb4
      clear hf hlt hj HOK HP0
      go_wp2_with fail
      refine HMADE.out.mono ?_
      rintro e w1 ⟨m, rfl, hbel, hlive⟩
      have HBE := Lib.hid hbel
      have HLI := Lib.hid hlive
      clear hbel hlive HMADE hb0 hb1 hb2 hb3 hb4
      go_wp2_with fail
      refine (tape_new w1).mono ?_
      rintro e w2 ⟨t, rfl, htape, hbel2⟩
      obtain ⟨R, X, rs, fs, xs, v1, v2, v3, hlat⟩ := HLI.out
      have hsz1 := HBW.out.size
      have hsz2 := HBE.out.size
      have HPI := Lib.hid (show PI w (runD d (l.take 0)).2 (kinds (l.take 0)) (runD d (l.take 0)).1 m t rs fs xs v1 v2 v3 (.slice none 0 0) w2 from
        ⟨⟨R, X, (hlat.below hbel2).lower hsz1⟩, htape.lower (Nat.le_trans hsz1 hsz2), World.ownsRow_nil _ _ _ _, fun k hk => by simp [Value.ownBlock] at hk, (HBW.out.trans (HBE.out.mono hsz1)).trans (hbel2.mono (Nat.le_trans hsz1 hsz2)),
          (Fr.of_below0 (S := fun _ => False) hbel2).blk ((Fr.of_below0 (S := fun _ => False) HBE.out).blk HB4.out id) id⟩)
      clear htape hbel2 hlat HBE HLI HBW HB3 HB4 hsz1 hsz2 R X
      go_wp2
      go_loopw [51, 14] (fun k o wr => ∃ j : Nat, j ≤ l.length ∧ k = .int .i64 j ∧ PI w (runD d (l.take j)).2 (kinds (l.take j)) (runD d (l.take j)).1 m t rs fs xs v1 v2 v3 o wr) (fun k _ _ => l.length - (intOf k).toNat)
      case atStart => exact ⟨0, Nat.zero_le _, rfl, HPI.out⟩
      case round =>
        clear HPI
        obtain ⟨j, hj, rfl, hP⟩ := hrel
        have HP := Lib.hid hP
        clear hP
        by_cases hlt : j < l.length
        · obtain ⟨ab, ao, hAd, ha0, ha1, ha2, ha3, ha4⟩ := (HA.out.below HP.out.below).at_ hlt
          subst hAd
          have HRS := Lib.hid (runD_step d l j hlt)
          have HKS := Lib.hid (kinds_step l j hlt)
          have hfx := HFIT.out l[j] (List.getElem_mem hlt)
          have HFJ := Lib.hid (runD_form HFF.out (l.take j) (fun x hx => HFIT.out x (List.mem_of_mem_take hx)))
          have hans : (runD d (l.take j)).1.length = j := by rw [runD_length]; simp; omega
          have hks : (kinds (l.take j)).length ≤ 1000 := by simp [kinds]; omega
          generalize l[j] = x at *
          generalize (runD d (l.take j)).2 = dj at *
          generalize (runD d (l.take j)).1 = ans at *
          generalize kinds (l.take j) = ks at *
          have hba := (Below.refl wr.heap.size wr).alloc (Nat.le_refl _) (.cells #[.int .i64 x.k, .int .i64 x.at_, .int .i64 x.a, .int .i64 x.b, .int .i64 x.c] 65)
          have HPA := Lib.hid (HP.out.more hba)
          obtain ⟨R, X, hlv⟩ := HPA.out.live
          have HDO := Lib.hid (live_do hlv HFJ.out.1 HPA.out.tape.gate HPA.out.below.size (by omega) x.k x.at_ x.a x.b x.c (Fit_same HFJ.out.2.1 HFJ.out.2.2.1 HFJ.out.2.2.2 hfx))
          have HAN := Lib.hid hans
          clear hba hlv hfx hks hans HP
          go_wp2_with fail
          generalize wr.alloc (.cells #[.int .i64 x.k, .int .i64 x.at_, .int .i64 x.a, .int .i64 x.b, .int .i64 x.c] 65) = wA at *
          refine HDO.out.mono ?_
          rintro e w3 ⟨rfl, hs, hlx⟩
          have HP1 := Lib.hid (HPA.out.act hs hlx)
          clear hs hlx HDO HPA ha0 ha1 ha2 ha3 ha4
          generalize (doD dj x.k x.at_ x.a x.b x.c).1 = n at *
          go_wp2_with (at_builtin; refine print_append_cells w.heap.size rfl _ _ 23 3 (.int .i64 0) 1 8 rfl Try.underlying23 pinfo_int rfl (by decide) (by decide) u14 ans.length _ [.int .i64 n] rfl rfl rfl (by simp [Value.oneCell']) HP1.out.out HP1.out.below HP1.out.below.size (by have := HAN.out; omega) ?_)
          intro a1 w4 hown1 hb1 hg1 hat1
          have HP2 := Lib.hid (HP1.out.push hg1 hown1 hat1)
          clear hown1 hb1 hg1 hat1 HP1
          go_wp2
          go_roundw
          case rel => exact ⟨j + 1, by omega, by go_num, by rw [HRS.out, HKS.out]; exact HP2.out⟩
          case measure => simp [intOf]; omega
        · have hje : j = l.length := by omega
          subst hje
          have hp0 := HP.out
          rw [List.take_of_length_le (Nat.le_refl _)] at hp0
          have HPP := Lib.hid hp0
          obtain ⟨R, X, hlv⟩ := hp0.live
          have HFJ := Lib.hid (runD_form HFF.out l HFIT.out)
          have HWO := Lib.hid (rec_world hlv HFJ.out.1)
          have HTK := Lib.hid hp0.tape
          clear hp0 hlv HP hlt hj
          go_wp2_with fail
          refine HWO.out.mono ?_
          rintro e w3 ⟨fv, iv, mv, sv, zv, bs, rfl, hbel, hout⟩
          have HBE := Lib.hid hbel
          have HOU := Lib.hid hout
          have HKI := Lib.hid (tape_kinds w3 w.heap.size t (kinds l) ((gstep_below HTK.out.gate hbel).gate t rfl) (by simp [kinds]; omega))
          clear hbel hout HWO
          go_wp2_with fail
          refine HKI.out.mono ?_
          rintro e w4 ⟨kv, rfl, hko, hkb⟩
          have HKB := Lib.hid hkb
          have HKO := Lib.hid hko
          have HRES := Lib.hid ((Fr.of_below0 (S := fun _ => False) hkb).blk ((Fr.of_below0 (S := fun _ => False) HBE.out).blk HPP.out.res id) id)
          obtain ⟨Af, cf, ef, _, _⟩ := owns_slice HOU.out.f
          obtain ⟨Ai, ci, ei, _, _⟩ := owns_slice HOU.out.i
          obtain ⟨Am, cm, em, _, _⟩ := owns_slice HOU.out.m
          obtain ⟨As, cs, es, _, _⟩ := owns_slice HOU.out.s
          obtain ⟨Az, cz, ez, _, _⟩ := owns_slice HOU.out.z
          have HFIN := Lib.hid (play_end hkb hko HBE.out HOU.out HPP.out HP1.out)
          clear hko hkb HKO HKI HOU HBE HKB
          subst ef ei em es ez
          generalize (runD d l).2.fields.length = n0 at *
          generalize (runD d l).2.infos.length = n1 at *
          generalize (runD d l).2.marks.length = n2 at *
          generalize (runD d l).2.states.length = n3 at *
          generalize (runD d l).2.frozen.length = n4 at *
          have hr0 := HRES.out.cell 0
          have hr1 := HRES.out.cell 1
          have hr2 := HRES.out.cell 2
          have hr3 := HRES.out.cell 3
          have hr4 := HRES.out.cell 4
          have hf0 := HRES.out.free ⟨w.heap.size + 1, 0, none⟩ rfl
          have hf1 := HRES.out.free ⟨w.heap.size + 1, 1, none⟩ rfl
          have hf2 := HRES.out.free ⟨w.heap.size + 1, 2, none⟩ rfl
          have hf3 := HRES.out.free ⟨w.heap.size + 1, 3, none⟩ rfl
          have hf4 := HRES.out.free ⟨w.heap.size + 1, 4, none⟩ rfl
          simp only [List.getElem?_cons_zero, List.getElem?_cons_succ] at hr0 hr1 hr2 hr3 hr4
          have HBLK := Lib.hid (fun wz e => res_end HRES.out (.slice Af n0 cf) (.slice Ai n1 ci) (.slice Am n2 cm) (.slice As n3 cs) (.slice Az n4 cz) wz e)
          go_wp2
          (try simp only [Exit.inBlock, Exit.then])
          refine bodyPost_ret (results_tctt rfl _ _ (w.heap.size + 1) TWD _ (0, 0) _ rfl (HBLK.out _ rfl).1 Try.underlying36 rfl wsize) rfl ?_
          exact HQ'.out _ _ (HFIN.out _ (HBLK.out _ rfl).2)
end Go.Proofs.Ytphhdmopfmelbaa

/- record's Play in two parts: plain law. -/
namespace Go.Proofs.Ytphhdmopfmelbaa
open Go.RowKit Go.Proofs.YtphhdmopfmelbaaW.PrintWords
set_option linter.unusedVariables false
set_option linter.unusedSimpArgs false

theorem refusedD_all {d : WD} : ∀ {l : List ActD}, refusedD d l = 0 → ∀ x ∈ l, refD d x.k x.at_ x.a x.b x.c = 0
  | [], _, x, hx => by simp at hx
  | y :: l, h, x, hx => by
    unfold refusedD at h
    by_cases hy : refD d y.k y.at_ y.a y.b y.c = 0
    · rw [if_pos hy] at h
      rcases List.mem_cons.1 hx with rfl | hx
      · exact hy
      · exact refusedD_all h x hx
    · rw [if_neg hy] at h
      exact absurd h hy
theorem refusedD_zero {d : WD} : ∀ {l : List ActD}, (∀ x ∈ l, refD d x.k x.at_ x.a x.b x.c = 0) → refusedD d l = 0
  | [], _ => rfl
  | y :: l, h => by
    unfold refusedD
    rw [if_pos (h y (by simp))]
    exact refusedD_zero fun x hx => h x (by simp [hx])
structure Good (d : WD) (l : List ActD) : Prop where
  lim : limitsD d = 0
  len : l.length ≤ 1000
  form : formD d = 0
  ref : ∀ x ∈ l, refD d x.k x.at_ x.a x.b x.c = 0
theorem Good.of {d : WD} {l : List ActD} (h : playE d l = 0) : Good d l := by
  unfold playE at h
  by_cases h1 : limitsD d ≠ 0 ∨ l.length > 1000
  · rw [if_pos h1] at h; cases h
  · rw [if_neg h1] at h
    have hlim : limitsD d = 0 := by
      rcases limits_cases d with h2 | h2
      · exact h2
      · exact absurd (.inl (by rw [h2]; decide)) h1
    have hlen : l.length ≤ 1000 := by
      rcases Nat.lt_or_ge 1000 l.length with h2 | h2
      · exact absurd (.inr h2) h1
      · exact h2
    by_cases h2 : formD d ≠ 0
    · rw [if_pos h2] at h; exact absurd h h2
    · rw [if_neg h2] at h
      exact ⟨hlim, hlen, by rcases form_cases d with h3 | h3; exact h3; exact absurd (by rw [h3]; decide) h2, refusedD_all h⟩
theorem Good.play {d : WD} {l : List ActD} (h : Good d l) : playE d l = 0 := by
  unfold playE
  rw [if_neg (fun hx => by
    rcases hx with hx | hx
    · exact hx h.lim
    · have := h.len; omega), if_neg (by rw [h.form]; decide)]
  exact refusedD_zero h.ref
theorem Good.Form {d : WD} {l : List ActD} (h : Good d l) : d.Form := form_of h.lim h.form
theorem Good.fits {d : WD} {l : List ActD} (h : Good d l) : ∀ x ∈ l, d.Fit x.k x.at_ x.a x.b x.c := fun x hx => fit_of (h.ref x hx)
theorem refD_shape {d d' : WD} (h0 : d'.fields.length = d.fields.length) (h3 : d'.states.length = d.states.length) (hf : ∀ i, (d'.fields.getD i []).length = (d.fields.getD i []).length) (k at_ a b c : Int) : refD d' k at_ a b c = refD d k at_ a b c := by
  unfold refD
  rw [h0, h3, hf]
theorem inD_of {n lo hi : Int} (h1 : lo ≤ n) (h2 : n < hi) : inD n lo hi = true := by simp [inD, h1, h2]
theorem Form.lim {d : WD} (h : d.Form) : limitsD d = 0 := by
  unfold limitsD
  rw [if_neg]
  rintro (h1 | h1 | ⟨r, hr, h1⟩)
  · have := h.l0; omega
  · have := h.l3; omega
  · have := h.l1 r hr; omega
theorem Form.form {d : WD} (h : d.Form) : formD d = 0 := by
  unfold formD
  rw [if_pos]
  refine ⟨h.e1, h.e2, h.e4, fun i hi => ⟨?_, ?_⟩, ?_⟩
  · unfold infoB
    have hi' : i < d.infos.length := by rw [h.e1]; exact hi
    have hm : d.infos.getD i 0 ∈ d.infos := by
      rw [List.getD_eq_getElem?_getD, List.getElem?_eq_getElem hi']
      exact List.getElem_mem hi'
    have := h.hI _ hm
    exact inD_of this.1 this.2
  · unfold rowB
    rw [List.any_eq_false]
    intro n hn
    have hm : d.fields.getD i [] ∈ d.fields := by
      rw [List.getD_eq_getElem?_getD, List.getElem?_eq_getElem hi]
      exact List.getElem_mem hi
    have := h.hF _ hm n hn
    simp [inD_of this.1 this.2]
  · rw [List.any_eq_false]
    intro n hn
    have := h.hS n hn
    simp [inD_of this.1 this.2]
/-- Acts in two parts. -/
theorem Good.take {d : WD} {l : List ActD} (h : Good d l) (k : Nat) : Good d (l.take k) :=
  ⟨h.lim, Nat.le_trans (List.length_take_le' k l) h.len, h.form, fun x hx => h.ref x (List.mem_of_mem_take hx)⟩
theorem Good.drop {d : WD} {l : List ActD} (h : Good d l) (k : Nat) : Good (runD d (l.take k)).2 (l.drop k) := by
  obtain ⟨f1, f2, f3, f4⟩ := runD_form h.Form (l.take k) (fun x hx => h.fits x (List.mem_of_mem_take hx))
  refine ⟨Form.lim f1, by have := h.len; simp; omega, Form.form f1, fun x hx => ?_⟩
  rw [refD_shape f2 f3 f4]
  exact h.ref x (List.mem_of_mem_drop hx)
theorem runD_two (d : WD) (l : List ActD) (k : Nat) : runD d l = ((runD d (l.take k)).1 ++ (runD (runD d (l.take k)).2 (l.drop k)).1, (runD (runD d (l.take k)).2 (l.drop k)).2) := by
  have := runD_append d (l.take k) (l.drop k)
  rwa [List.take_append_drop] at this
theorem kinds_two (l : List ActD) (k : Nat) : kinds l = kinds (l.take k) ++ kinds (l.drop k) := by
  unfold kinds
  rw [← List.map_append, List.take_append_drop]
theorem k_of (N : Int) (L : Nat) (hL : 0 < L) (hL2 : L ≤ 1100) : ∃ kk : Nat, kk < L ∧ (wrap64 (N.tmod L + L)).tmod L = kk := by
  have h1 : N.tmod L < L := Int.tmod_lt_of_pos N (by omega)
  have h2 : -(L : Int) < N.tmod L := by
    have := Int.tmod_lt_of_pos (-N) (show (0 : Int) < L by omega)
    rw [Int.neg_tmod] at this
    omega
  have hw : wrap64 (N.tmod L + L) = N.tmod L + L := by unfold wrap64; omega
  rw [hw]
  have h3 : 0 ≤ N.tmod L + L := by omega
  have h4 := Int.tmod_nonneg (L : Int) h3
  have h5 := Int.tmod_lt_of_pos (N.tmod L + L) (show (0 : Int) < L by omega)
  exact ⟨((N.tmod L + L).tmod L).toNat, by omega, by omega⟩
end Go.Proofs.Ytphhdmopfmelbaa
