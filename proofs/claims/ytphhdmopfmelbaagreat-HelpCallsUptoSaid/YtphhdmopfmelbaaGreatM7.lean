/- Joined texts: HelpQ Ref13S Ref13C Ref13T Ref13U. -/
import Derived.Test.YtphhdmopfmelbaaGreatM3
import Derived.Test.YtphhdmopfmelbaaGreatM4
import Derived.Test.YtphhdmopfmelbaaGreatM5
import Derived.BigQuiet
import Derived.Deep.QuietTactic
import Derived.StillTailTactics

/- help, the document's helper: one step as plain data; its steps one behind the other have the kinds of one help. No walk. -/
namespace Go.Proofs.YtphhdmopfmelbaaGreat
open Go.RowKit Go.Proofs.YtphhdmopfmelbaaGreatW.PrintWords
set_option linter.unusedVariables false
set_option linter.unusedSimpArgs false

/-- Where a helper stands: the line, which record. -/
structure HS where
  line : Int
  i : Nat
def nextS (p : PlanD) (i : Nat) : HS := if i + 1 = p.V.length then ⟨5, i + 1⟩ else ⟨1, i + 1⟩
def skipS (p : PlanD) (i : Nat) : Nat := i + ((p.fin.drop i).takeWhile (fun f => !f)).length
def marksS (p : PlanD) (i : Nat) : HS := if skipS p i = p.V.length then ⟨7, skipS p i⟩ else ⟨6, skipS p i⟩
/-- One step: its kind; has the help returned; the answer; where the helper stands then; the world. -/
def stepH (d : WD) (s : HS) (p : PlanD) (scx : Int) : Int × Bool × Int × HS × WD :=
  if s.line = 1 then
    if d.infos.getD (p.V.getD s.i 0).toNat 0 = p.infos.getD s.i 0 then (5, false, 0, nextS p s.i, { d with infos := d.infos.set (p.V.getD s.i 0).toNat scx })
    else (5, false, 0, ⟨2, s.i⟩, d)
  else if s.line = 2 then
    if d.infos.getD (p.V.getD s.i 0).toNat 0 = scx then (1, false, 0, nextS p s.i, d) else (1, false, 0, ⟨3, s.i⟩, d)
  else if s.line = 3 then (1, d.frozen.getD scx.toNat false, 1, ⟨4, s.i⟩, d)
  else if s.line = 4 then (2, true, 0, s, { d with states := d.states.set scx.toNat 2 })
  else if s.line = 5 then (2, false, 0, marksS p 0, { d with frozen := d.frozen.set scx.toNat true })
  else if s.line = 6 then (2, false, 0, marksS p (s.i + 1), { d with marks := d.marks.set (p.V.getD s.i 0).toNat true })
  else if s.line = 7 then (5, false, 0, ⟨8, s.i⟩, swgH d p)
  else (2, true, 1, s, { d with states := d.states.set scx.toNat 1 })
/-- The kinds of the steps that are left. -/
inductive Rest (p : PlanD) (scx : Int) : WD → HS → List Int → Prop
  | last {d : WD} {s : HS} : (stepH d s p scx).2.1 = true → Rest p scx d s [(stepH d s p scx).1]
  | more {d : WD} {s : HS} {ks : List Int} : (stepH d s p scx).2.1 = false → Rest p scx (stepH d s p scx).2.2.2.2 (stepH d s p scx).2.2.2.1 ks → Rest p scx d s ((stepH d s p scx).1 :: ks)
section
variable {p : PlanD} {scx : Int}
theorem Rest.go {d d' : WD} {s s' : HS} {k a : Int} {ks : List Int} (h : stepH d s p scx = (k, false, a, s', d')) (hr : Rest p scx d' s' ks) : Rest p scx d s (k :: ks) := by
  have h1 := Rest.more (p := p) (scx := scx) (d := d) (s := s) (ks := ks) (by rw [h]) (by rw [h]; exact hr)
  rw [h] at h1
  exact h1
theorem Rest.end_ {d d' : WD} {s s' : HS} {k a : Int} (h : stepH d s p scx = (k, true, a, s', d')) : Rest p scx d s [k] := by
  have h1 := Rest.last (p := p) (scx := scx) (d := d) (s := s) (by rw [h])
  rw [h] at h1
  exact h1
theorem rest_swing (d : WD) (i : Nat) : Rest p scx d ⟨7, i⟩ [5, 2] :=
  Rest.go (d' := swgH d p) (s' := ⟨8, i⟩) (a := 0) rfl (Rest.end_ (a := 1) rfl)
theorem takeWhile_cons_false (l : List Bool) : ((false :: l).takeWhile (fun f => !f)).length = (l.takeWhile (fun f => !f)).length + 1 := by simp [List.takeWhile]
/-- From record i on: the marks that are left, the swing, the commit. -/
theorem rest_marks (hf : p.fin.length = p.V.length) : ∀ (l : List (Int × Bool)) (i : Nat) (d : WD), i ≤ p.V.length → (p.V.zip p.fin).drop i = l → Rest p scx d (marksS p i) ((mrkH d l).2 ++ [5, 2]) := fun l => by
  induction l with
  | nil =>
    intro i d hi hl
    have hlen : (p.V.zip p.fin).length = p.V.length := by simp [hf]
    have hie : i = p.V.length := by
      have := List.drop_eq_nil_iff.1 hl
      omega
    have hs : skipS p i = p.V.length := by
      unfold skipS
      rw [List.drop_eq_nil_iff.2 (by omega)]
      simp [hie]
    unfold marksS
    rw [if_pos hs]
    exact rest_swing d _
  | cons x l ih =>
    intro i d hi hl
    obtain ⟨r, f⟩ := x
    have hlen : (p.V.zip p.fin).length = p.V.length := by simp [hf]
    have hlt : i < p.V.length := by
      rcases Nat.lt_or_ge i p.V.length with h | h
      · exact h
      · rw [List.drop_eq_nil_iff.2 (by omega)] at hl; cases hl
    have hc : (p.V.zip p.fin)[i]? = some (r, f) := by
      have := congrArg (fun z => z[0]?) hl
      simpa using this
    have hd : (p.V.zip p.fin).drop (i + 1) = l := by
      have := congrArg List.tail hl
      simpa [List.tail_drop] using this
    obtain ⟨hV, hF⟩ : p.V[i]? = some r ∧ p.fin[i]? = some f := by
      rw [List.getElem?_zip_eq_some] at hc
      exact hc
    have hdf : p.fin.drop i = f :: p.fin.drop (i + 1) := by
      have h0 := (List.getElem?_eq_some_iff.1 hF)
      obtain ⟨h1, h2⟩ := h0
      rw [List.drop_eq_getElem_cons h1, h2]
    cases f with
    | false =>
      have hs : marksS p i = marksS p (i + 1) := by
        have : skipS p i = skipS p (i + 1) := by
          unfold skipS
          rw [hdf, takeWhile_cons_false]
          omega
        unfold marksS
        rw [this]
      rw [hs]
      exact ih (i + 1) d (by omega) hd
    | true =>
      have hs : skipS p i = i := by unfold skipS; rw [hdf]; simp [List.takeWhile]
      have hm : marksS p i = ⟨6, i⟩ := by unfold marksS; rw [hs, if_neg (by omega)]
      rw [hm]
      have hv : p.V.getD i 0 = r := by simp [List.getD_eq_getElem?_getD, hV]
      refine Rest.go (d' := { d with marks := d.marks.set r.toNat true }) (s' := marksS p (i + 1)) (a := 0) ?_ (ih (i + 1) _ (by omega) hd)
      unfold stepH
      simp [hV]
/-- The whole of one help's kinds, from record i on. -/
def tailH (scx : Int) (p : PlanD) (x : Bool × WD × List Int) : List Int :=
  if x.1 then x.2.2 ++ 2 :: ((mrkH { x.2.1 with frozen := x.2.1.frozen.set scx.toNat true } (p.V.zip p.fin)).2 ++ [5, 2])
  else if x.2.1.frozen.getD scx.toNat false then x.2.2 ++ [1] else x.2.2 ++ [1, 2]
theorem tailH_cons (x : Bool × WD × List Int) (k : Int) : tailH scx p (x.1, x.2.1, k :: x.2.2) = k :: tailH scx p x := by
  unfold tailH
  simp only
  split
  · rfl
  · split <;> rfl
theorem rest_frz (hi : p.infos.length = p.V.length) (hf : p.fin.length = p.V.length) : ∀ (l : List (Int × Int)) (i : Nat) (d : WD), i ≤ p.V.length → (p.V.zip p.infos).drop i = l →
    Rest p scx d (if i = p.V.length then ⟨5, i⟩ else ⟨1, i⟩) (tailH scx p (frzH scx d l)) := fun l => by
  induction l with
  | nil =>
    intro i d hle hl
    have hlen : (p.V.zip p.infos).length = p.V.length := by simp [hi]
    have hie : i = p.V.length := by
      have := List.drop_eq_nil_iff.1 hl
      omega
    rw [if_pos hie]
    show Rest p scx d ⟨5, i⟩ (2 :: ((mrkH { d with frozen := d.frozen.set scx.toNat true } (p.V.zip p.fin)).2 ++ [5, 2]))
    exact Rest.go (d' := { d with frozen := d.frozen.set scx.toNat true }) (s' := marksS p 0) (a := 0) rfl (rest_marks hf _ 0 _ (Nat.zero_le _) rfl)
  | cons x l ih =>
    intro i d hle hl
    obtain ⟨r, n⟩ := x
    have hlen : (p.V.zip p.infos).length = p.V.length := by simp [hi]
    have hlt : i < p.V.length := by
      rcases Nat.lt_or_ge i p.V.length with h | h
      · exact h
      · rw [List.drop_eq_nil_iff.2 (by omega)] at hl; cases hl
    have hc : (p.V.zip p.infos)[i]? = some (r, n) := by
      have := congrArg (fun z => z[0]?) hl
      simpa using this
    have hd : (p.V.zip p.infos).drop (i + 1) = l := by
      have := congrArg List.tail hl
      simpa [List.tail_drop] using this
    obtain ⟨hV, hN⟩ : p.V[i]? = some r ∧ p.infos[i]? = some n := by
      rw [List.getElem?_zip_eq_some] at hc
      exact hc
    have hv : p.V.getD i 0 = r := by simp [List.getD_eq_getElem?_getD, hV]
    have hn : p.infos.getD i 0 = n := by simp [List.getD_eq_getElem?_getD, hN]
    have hnx : nextS p i = (if i + 1 = p.V.length then ⟨5, i + 1⟩ else ⟨1, i + 1⟩) := rfl
    rw [if_neg (by omega)]
    by_cases h1 : d.infos.getD r.toNat 0 = n
    · have he : frzH scx d ((r, n) :: l) = ((frzH scx { d with infos := d.infos.set r.toNat scx } l).1, (frzH scx { d with infos := d.infos.set r.toNat scx } l).2.1, 5 :: (frzH scx { d with infos := d.infos.set r.toNat scx } l).2.2) := by
        show (if _ then _ else _) = _
        rw [if_pos h1]
      rw [he, tailH_cons]
      refine Rest.go (d' := { d with infos := d.infos.set r.toNat scx }) (s' := nextS p i) (a := 0) ?_ (by rw [hnx]; exact ih (i + 1) _ (by omega) hd)
      unfold stepH
      rw [if_pos rfl, hv, hn, if_pos h1]
    · by_cases h2 : d.infos.getD r.toNat 0 = scx
      · have he : frzH scx d ((r, n) :: l) = ((frzH scx d l).1, (frzH scx d l).2.1, 5 :: 1 :: (frzH scx d l).2.2) := by
          show (if _ then _ else _) = _
          rw [if_neg h1, if_pos h2]
        rw [he, tailH_cons ((frzH scx d l).1, (frzH scx d l).2.1, 1 :: (frzH scx d l).2.2) 5, tailH_cons]
        refine Rest.go (d' := d) (s' := ⟨2, i⟩) (a := 0) ?_ (Rest.go (d' := d) (s' := nextS p i) (a := 0) ?_ (by rw [hnx]; exact ih (i + 1) _ (by omega) hd))
        · unfold stepH; rw [if_pos rfl, hv, hn, if_neg h1]
        · unfold stepH; rw [if_neg (show ¬ (2 : Int) = 1 by decide), if_pos rfl, hv, if_pos h2]
      · have he : frzH scx d ((r, n) :: l) = (false, d, [5, 1]) := by
          show (if _ then _ else _) = _
          rw [if_neg h1, if_neg h2]
        rw [he]
        have s1 : stepH d ⟨1, i⟩ p scx = (5, false, 0, ⟨2, i⟩, d) := by unfold stepH; rw [if_pos rfl, hv, hn, if_neg h1]
        have s2 : stepH d ⟨2, i⟩ p scx = (1, false, 0, ⟨3, i⟩, d) := by unfold stepH; rw [if_neg (show ¬ (2 : Int) = 1 by decide), if_pos rfl, hv, if_neg h2]
        by_cases h3 : d.frozen.getD scx.toNat false = true
        · have : tailH scx p (false, d, [5, 1]) = [5, 1, 1] := by unfold tailH; simp only [Bool.false_eq_true, if_false]; rw [if_pos h3]; rfl
          rw [this]
          have s3 : stepH d ⟨3, i⟩ p scx = (1, true, 1, ⟨4, i⟩, d) := by unfold stepH; rw [if_neg (show ¬ (3 : Int) = 1 by decide), if_neg (show ¬ (3 : Int) = 2 by decide), if_pos rfl, h3]
          exact Rest.go s1 (Rest.go s2 (Rest.end_ s3))
        · have h4 : d.frozen.getD scx.toNat false = false := by simpa using h3
          have : tailH scx p (false, d, [5, 1]) = [5, 1, 1, 2] := by unfold tailH; simp only [Bool.false_eq_true, if_false]; rw [if_neg h3]; rfl
          rw [this]
          have s3 : stepH d ⟨3, i⟩ p scx = (1, false, 1, ⟨4, i⟩, d) := by unfold stepH; rw [if_neg (show ¬ (3 : Int) = 1 by decide), if_neg (show ¬ (3 : Int) = 2 by decide), if_pos rfl, h4]
          exact Rest.go s1 (Rest.go s2 (Rest.go s3 (Rest.end_ (a := 0) rfl)))
theorem help_kinds (d : WD) : (helpH d p scx).2.1 = tailH scx p (frzH scx d (p.V.zip p.infos)) := by
  unfold helpH tailH
  simp only
  split
  · rfl
  · split <;> rfl
theorem rest_help (hv : 0 < p.V.length) (hi : p.infos.length = p.V.length) (hf : p.fin.length = p.V.length) (d : WD) : Rest p scx d ⟨1, 0⟩ (helpH d p scx).2.1 := by
  rw [help_kinds]
  have := rest_frz (p := p) (scx := scx) hi hf (p.V.zip p.infos) 0 d (Nat.zero_le _) rfl
  rwa [if_neg (by omega)] at this
end
end Go.Proofs.YtphhdmopfmelbaaGreat

/- larchref13: Begin, next, marks. -/
namespace Go.Proofs.YtphhdmopfmelbaaGreat
open Go.RowKit Go.Proofs.YtphhdmopfmelbaaGreatW.PrintWords
set_option linter.unusedVariables false
set_option linter.unusedSimpArgs false

abbrev THL : Nat := 138
/-- A helper in memory. -/
abbrev hcells (scx : Int) (s : HS) : List Value := [.int .i64 scx, .int .i64 s.line, .int .i64 (s.i : Int)]
theorem ref13_Begin (scx : Int) (w : World) : Calls Tryz.prog 43 #[.int .i64 scx] w fun e w' => e = .returned (.pointer (some ⟨w.heap.size, 0, none⟩)) ∧ w' = w.alloc (.cells #[.int .i64 scx, .int .i64 1, .int .i64 0] THL) := by
  go_enter Tryz.func43, Tryz.ntmps43
  go_wp2
  go_ret
  exact ⟨rfl, rfl⟩
theorem Fr.drewN {a b : World} {S : Nat → Prop} (h : Fr a b S) (n : Nat) : Fr a (b.drewN n) S := ⟨h.os, h.tape, h.output, h.size, h.block⟩
theorem Blk.drewN {w : World} {b T : Nat} {xs : List Value} (h : Blk w b T xs) (n : Nat) : Blk (w.drewN n) b T xs := h
/-- A box of a plan, then stores to the helper. -/
theorem box_fr {w w1 : World} {b : Nat} {o : Obj} (h : Fr (w.alloc o) w1 (fun k => k = b)) : Fr w w1 (fun k => k = b) :=
  ((Fr.refl w (fun k => k = b)).alloc o).trans h (fun _ _ h => h)
set_option maxHeartbeats 1000000 in
theorem ref13_next (w : World) (hb : Nat) (scx : Int) (l : Int) (i : Nat) (x : PX) (hh : Blk w hb THL [.int .i64 scx, .int .i64 l, .int .i64 (i : Int)]) (hi : i < 1000000) (hl : x.p.V.length < 1000000) :
    Calls Tryz.prog 64 #[.pointer (some ⟨hb, 0, none⟩), x.val] w fun e w' => e = .returned (.tuple #[]) ∧ Blk w' hb THL (hcells scx (nextS x.p i)) ∧ Fr w w' (fun k => k = hb) := by
  obtain ⟨p, B0, k0, B1, k1, B2, k2⟩ := x
  refine calls_hide fun Q HQ => ?_
  have HQ' := Lib.hid HQ
  simp only at hl
  have HH := Lib.hid hh
  have hc1 := hh.cell 1
  have hc2 := hh.cell 2
  have hf1 := hh.free ⟨hb, 1, none⟩ rfl
  have hf2 := hh.free ⟨hb, 2, none⟩ rfl
  have hlt := hh.lt
  have hne : ¬ hb = w.heap.size := by omega
  simp only [List.getElem?_cons_zero, List.getElem?_cons_succ] at hc1 hc2
  clear HQ hh
  go_enter Tryz.func64, Tryz.ntmps64
  by_cases he : i + 1 = p.V.length
  · have HN := Lib.hid (show nextS p i = ⟨5, i + 1⟩ by unfold nextS; rw [if_pos he])
    go_wp2
    go_quiet (fail)
    go_wp2
    go_end0
    refine HQ'.out (.returned (.tuple #[])) _ ⟨rfl, ?_, (((((Fr.refl w (fun k => k = hb)).setCell ⟨hb, 2, none⟩ _ (fun _ => rfl)).setCell ⟨hb, 1, none⟩ _ (fun _ => rfl)).alloc _).drewN nq).setCell ⟨hb, 1, none⟩ _ (fun _ => rfl)⟩
    rw [HN.out]
    exact ((((HH.out.set 2 _).set 1 _).alloc _).drewN nq).set 1 _
  · have HN := Lib.hid (show nextS p i = ⟨1, i + 1⟩ by unfold nextS; rw [if_neg he])
    go_wp2
    go_quiet (fail)
    go_wp2
    go_end0
    refine HQ'.out (.returned (.tuple #[])) _ ⟨rfl, ?_, ((((Fr.refl w (fun k => k = hb)).setCell ⟨hb, 2, none⟩ _ (fun _ => rfl)).setCell ⟨hb, 1, none⟩ _ (fun _ => rfl)).alloc _).drewN nq⟩
    rw [HN.out]
    exact (((HH.out.set 2 _).set 1 _).alloc _)
/-- Where the marks are looked for, one by one. -/
theorem skip_on {p : PlanD} {i : Nat} (h : p.fin[i]? = some false) : skipS p i = skipS p (i + 1) := by
  unfold skipS
  obtain ⟨hl, he⟩ := List.getElem?_eq_some_iff.1 h
  rw [List.drop_eq_getElem_cons hl, he, takeWhile_cons_false]
  omega
theorem skip_at {p : PlanD} {i : Nat} (h : p.fin[i]? = some true) : skipS p i = i := by
  unfold skipS
  obtain ⟨hl, he⟩ := List.getElem?_eq_some_iff.1 h
  rw [List.drop_eq_getElem_cons hl, he]
  simp [List.takeWhile]
theorem skip_end {p : PlanD} {i : Nat} (h : p.fin.length ≤ i) : skipS p i = i := by
  unfold skipS
  rw [List.drop_eq_nil_iff.2 h]; simp
set_option maxHeartbeats 1000000 in
theorem ref13_marks (w : World) (hb : Nat) (scx : Int) (l : Int) (i : Nat) (x : PX) (hh : Blk w hb THL [.int .i64 scx, .int .i64 l, .int .i64 (i : Int)]) (hi : i ≤ x.p.V.length) (wb : World) (hx : x.Reads wb) (hbl : Below wb.heap.size wb w) (hlo : wb.heap.size ≤ hb) (hf : x.p.fin.length = x.p.V.length) (hl : x.p.V.length < 1000000) :
    Calls Tryz.prog 65 #[.pointer (some ⟨hb, 0, none⟩), x.val] w fun e w' => e = .returned (.tuple #[]) ∧ Blk w' hb THL (hcells scx (marksS x.p i)) ∧ Fr w w' (fun k => k = hb) := by
  obtain ⟨p, B0, k0, B1, k1, B2, k2⟩ := x
  refine calls_hide fun Q HQ => ?_
  have HQ' := Lib.hid HQ
  simp only at hl hi hf
  have HX := Lib.hid hx
  have HBL := Lib.hid hbl
  have HF := Lib.hid hf
  have hlt := hh.lt
  have HB := Lib.hid (show Blk (w.alloc (.cells #[.slice B0 p.V.length k0, .slice B1 p.infos.length k1, .slice B2 p.fin.length k2, .int .i64 p.at_, .int .i64 p.fld, .int .i64 p.old, .int .i64 p.new] 38)) w.heap.size 38 (PX.cells ⟨p, B0, k0, B1, k1, B2, k2⟩) from Blk.new w _ _)
  have HH := Lib.hid (hh.alloc (.cells #[.slice B0 p.V.length k0, .slice B1 p.infos.length k1, .slice B2 p.fin.length k2, .int .i64 p.at_, .int .i64 p.fld, .int .i64 p.old, .int .i64 p.new] 38))
  have HR := Lib.hid ((Fr.refl w (fun k => k = hb)).alloc (.cells #[.slice B0 p.V.length k0, .slice B1 p.infos.length k1, .slice B2 p.fin.length k2, .int .i64 p.at_, .int .i64 p.fld, .int .i64 p.old, .int .i64 p.new] 38))
  have hne : ¬ w.heap.size = hb := by omega
  have HNE := Lib.hid hne
  clear HQ hh hx hf hne hbl
  go_enter Tryz.func65, Tryz.ntmps65
  go_wp2
  generalize w.alloc (.cells #[.slice B0 p.V.length k0, .slice B1 p.infos.length k1, .slice B2 p.fin.length k2, .int .i64 p.at_, .int .i64 p.fld, .int .i64 p.old, .int .i64 p.new] 38) = w0 at *
  go_loopw [] (fun wr => ∃ q : Nat, i ≤ q ∧ q ≤ p.V.length ∧ skipS p q = skipS p i ∧ Blk wr hb THL [.int .i64 scx, .int .i64 l, .int .i64 (q : Int)] ∧ Blk wr w.heap.size 38 (PX.cells ⟨p, B0, k0, B1, k1, B2, k2⟩) ∧ Fr w wr (fun k => k = hb)) (fun wr => p.V.length - (intOf ((wr.cell? ⟨hb, 2, none⟩).getD undef)).toNat)
  case atStart => exact ⟨i, Nat.le_refl _, hi, rfl, HH.out, HB.out, HR.out⟩
  case round =>
    clear HH HB HR
    obtain ⟨q, hq1, hq2, hs, hh, hbx, hr⟩ := hrel
    have HS := Lib.hid hs
    have HH := Lib.hid hh
    have HB := Lib.hid hbx
    have HR := Lib.hid hr
    have c1 := hh.cell 1
    have c2 := hh.cell 2
    have f1 := hh.free ⟨hb, 1, none⟩ rfl
    have f2 := hh.free ⟨hb, 2, none⟩ rfl
    have d0 := hbx.cell 0
    have d2 := hbx.cell 2
    simp only [List.getElem?_cons_zero, List.getElem?_cons_succ] at c1 c2 d0 d2
    have hne := HNE.out
    have HCI := Lib.hid c2
    clear hs hh hbx hr
    by_cases hq : q < p.V.length
    · have hq3 : q < p.fin.length := by rw [HF.out]; exact hq
      have hgt : decide ((q : Int) < (p.V.length : Int)) = true := decide_eq_true (by omega)
      obtain ⟨ad, hA, hc0⟩ := bool_at HX.out.h2 hq3
      simp only at hA hc0
      have HG := Lib.hid (List.getElem?_eq_getElem hq3)
      have hc3 : wr.cell? (ad.add q) = some (.bool p.fin[q]) := pw_cell_below (HBL.out.trans (HR.out.below HBL.out.size (fun k hk => hk ▸ hlo))) hc0
      generalize p.fin[q] = f at *
      subst hA
      clear hc0
      cases f with
      | false =>
        go_wp2
        go_quiet (fail)
        go_wp2
        go_roundw
        case rel => exact ⟨q + 1, by omega, by omega, by rw [← skip_on HG.out]; exact HS.out, HH.out.set 2 _, HB.out.other _ _ hne, (HR.out.drewN nq).setCell ⟨hb, 2, none⟩ _ (fun _ => rfl)⟩
        case measure =>
          have hcs : ((wr.drewN nq).setCell ⟨hb, 2, none⟩ (.int .i64 ((q : Int) + 1))).cell? ⟨hb, 2, none⟩ = some (.int .i64 ((q : Int) + 1)) := (HH.out.set 2 (.int .i64 ((q : Int) + 1))).cell 2
          rw [hcs, HCI.out]
          simp [intOf]; omega
      | true =>
        have HM := Lib.hid (show marksS p i = ⟨6, q⟩ by unfold marksS; rw [← HS.out, skip_at HG.out, if_neg (by omega)])
        have hqn : ((q : Int) == (p.V.length : Int)) = false := by rw [beq_eq_false_iff_ne]; omega
        go_wp2
        go_quiet (fail)
        go_wp2
        go_quiet (fail)
        go_wp2
        go_end0
        refine HQ'.out (.returned (.tuple #[])) _ ⟨rfl, ?_, (((HR.out.drewN _).setCell ⟨hb, 1, none⟩ _ (fun _ => rfl)).drewN _)⟩
        rw [HM.out]
        exact HH.out.set 1 _
    · have hgt : decide ((q : Int) < (p.V.length : Int)) = false := decide_eq_false (by omega)
      have hqe : q = p.V.length := by omega
      have HM := Lib.hid (show marksS p i = ⟨7, q⟩ by unfold marksS; rw [← HS.out, skip_end (by rw [HF.out]; omega), if_pos hqe])
      have hqn : ((q : Int) == (p.V.length : Int)) = true := by rw [beq_iff_eq]; omega
      clear hqe
      go_wp2
      go_quiet (fail)
      go_wp2
      go_quiet (fail)
      go_wp2
      go_end0
      refine HQ'.out (.returned (.tuple #[])) _ ⟨rfl, ?_, (((HR.out.drewN _).setCell ⟨hb, 1, none⟩ _ (fun _ => rfl)).drewN _).setCell ⟨hb, 1, none⟩ _ (fun _ => rfl)⟩
      rw [HM.out]
      exact (HH.out.set 1 (.int .i64 6)).set 1 _
end Go.Proofs.YtphhdmopfmelbaaGreat

/- larchref13: in, Good. -/
namespace Go.Proofs.YtphhdmopfmelbaaGreat
open Go.RowKit Go.Proofs.YtphhdmopfmelbaaGreatW.PrintWords
set_option linter.unusedVariables false
set_option linter.unusedSimpArgs false

abbrev TRW3 : Nat := 26
theorem ref13_in (n lo hi : Int) (w : World) : Calls Tryz.prog 41 #[.int .i64 n, .int .i64 lo, .int .i64 hi] w fun e w' => e = .returned (.bool (inB n lo hi)) ∧ w' = w := by
  by_cases h0 : lo ≤ n
  · by_cases h1 : n < hi
    · rw [inB_true.2 ⟨h0, by omega⟩]
      go_enter Tryz.func41, Tryz.ntmps41
      go_wp2
      go_ret
      exact ⟨rfl, rfl⟩
    · rw [inB_false.2 (fun h => by have := h.2; omega)]
      go_enter Tryz.func41, Tryz.ntmps41
      go_wp2
      go_ret
      exact ⟨rfl, rfl⟩
  · rw [inB_false.2 (fun h => h0 h.1)]
    go_enter Tryz.func41, Tryz.ntmps41
    go_wp2
    go_ret
    exact ⟨rfl, rfl⟩
theorem ref13_in_of (n lo hi : Int) (r : Bool) (h : inB n lo hi = r) (w : World) : Calls Tryz.prog 41 #[.int .i64 n, .int .i64 lo, .int .i64 hi] w fun e w' => e = .returned (.bool r) ∧ w' = w := h ▸ ref13_in n lo hi w

set_option maxHeartbeats 4000000 in
set_option maxRecDepth 100000 in
theorem ref13_Good (w : World) (v : WV) (d : WD) (hv : v.Reads w d) (hl : d.fields.length < 1000000000000000) (hl3 : d.states.length < 1000000000000000) (hr : ∀ r ∈ d.fields, r.length < 1000000000000000) :
    Calls Tryz.prog 51 #[v.val d] w fun e w' => ∃ r, e = .returned (.bool r) ∧ (r = true ↔ d.Formed) ∧ Below w.heap.size w w' := by
  refine calls_hide fun Q HQ => ?_
  have HN := Lib.hid (show ∀ w', Below w.heap.size w w' → ¬ d.Formed → Q (.returned (.bool false)) w' from fun w' hb hn => HQ _ _ ⟨false, rfl, by simp [hn], hb⟩)
  have HY := Lib.hid (show ∀ w', Below w.heap.size w w' → d.Formed → Q (.returned (.bool true)) w' from fun w' hb hn => HQ _ _ ⟨true, rfl, by simp [hn], hb⟩)
  have HV := Lib.hid hv
  have HR := Lib.hid hr
  have HB1 := Lib.hid (Blk.new w TRW3 (v.cells d))

  clear HQ hv hr
  go_enter Tryz.func51, Tryz.ntmps51
  by_cases e1 : d.infos.length = d.fields.length
  case neg =>
    have HF := Lib.hid (fun w' hb => HN.out w' hb (fun h => e1 h.e1))
    clear HN HY HV HR HB1
    go_wp2
    exact HF.out _ ((Below.refl _ _).alloc (Nat.le_refl _) _)
  by_cases e2 : d.marks.length = d.fields.length
  case neg =>
    have HF := Lib.hid (fun w' hb => HN.out w' hb (fun h => e2 h.e2))
    clear HN HY HV HR HB1
    go_wp2
    exact HF.out _ ((Below.refl _ _).alloc (Nat.le_refl _) _)
  by_cases e4 : d.frozen.length = d.states.length
  case neg =>
    have HF := Lib.hid (fun w' hb => HN.out w' hb (fun h => e4 h.e4))
    clear HN HY HV HR HB1
    go_wp2
    exact HF.out _ ((Below.refl _ _).alloc (Nat.le_refl _) _)
  have E1 := Lib.hid e1
  have E2 := Lib.hid e2
  have E4 := Lib.hid e4
  go_wp2
  clear e1 e2 e4
  generalize hW : w.alloc (.cells #[.slice v.A0 d.fields.length v.c0, .slice v.A1 d.fields.length v.c1, .slice v.A2 d.fields.length v.c2, .slice v.A3 d.states.length v.c3, .slice v.A4 d.states.length v.c4] TRW3) = w0
  have HB0 := Lib.hid (show Below w.heap.size w w0 by rw [← hW]; exact (Below.refl _ _).alloc (Nat.le_refl _) _)
  have HK0 := Lib.hid (show Blk w0 w.heap.size TRW3 (v.cells d) by rw [← hW]; have h := HB1.out; simp only [WV.cells, E1.out, E2.out, E4.out] at h ⊢; exact h)
  clear hW HB1
  go_loopw [3] (fun k wr => ∃ j : Nat, j ≤ d.fields.length ∧ k = .int .i64 j ∧ (∀ r ∈ d.fields.take j, ∀ n ∈ r, inH n (-1) d.fields.length) ∧ (∀ n ∈ d.infos.take j, inH n (-1) d.states.length) ∧ Below w.heap.size w wr ∧ Blk wr w.heap.size TRW3 (v.cells d)) (fun k _ => d.fields.length - (intOf k).toNat)
  case atStart => exact ⟨0, Nat.zero_le _, rfl, by simp, by simp, HB0.out, HK0.out⟩
  case round =>
    clear HB0 HK0
    obtain ⟨j, hj, rfl, hr1, hr2, hb, hk⟩ := hrel
    have H1 := Lib.hid hr1
    have H2 := Lib.hid hr2
    have HB := Lib.hid hb
    have HK := Lib.hid hk
    clear hr1 hr2 hb hk
    have hk0 : wr.cell? ⟨w.heap.size, 0, none⟩ = some (.slice v.A0 d.fields.length v.c0) := HK.out.cell 0
    have hk1 : wr.cell? ⟨w.heap.size, 1, none⟩ = some (.slice v.A1 d.infos.length v.c1) := HK.out.cell 1
    have hk3 : wr.cell? ⟨w.heap.size, 3, none⟩ = some (.slice v.A3 d.states.length v.c3) := HK.out.cell 3
    by_cases hlt : j < d.fields.length
    · have e1 := E1.out
      obtain ⟨ad, hA, A', c', hc0, _, hrow⟩ := row_at HV.out.h0 hlt
      have HC0 := Lib.hid hc0
      have HMem := Lib.hid (List.getElem_mem hlt)
      have HS1 := Lib.hid (all_take (P := fun r => ∀ n ∈ r, inH n (-1) d.fields.length) hlt H1.out)
      have hrl := HR.out _ (List.getElem_mem hlt)
      obtain ⟨ad2, hA2, hc2⟩ := int_at HV.out.h1 (j := j) (by omega)
      have hc3 : _ = some (Value.int .i64 (d.infos[j]'(by omega))) := pw_cell_below HB.out hc2
      have HMi := Lib.hid (List.getElem_mem (l := d.infos) (n := j) (by omega))
      have HS2 := Lib.hid (all_take (P := fun n => inH n (-1) d.states.length) (l := d.infos) (j := j) (show j < d.infos.length by omega) H2.out)
      generalize d.infos[j]'(by omega) = m at *
      generalize d.fields[j] = row at *
      have HRow := Lib.hid hrow
      obtain ⟨A0, c0, A1, c1, A2, c2, A3, c3, A4, c4⟩ := v
      simp only at hA hA2 hk0 hk1 hk3
      subst hA hA2
      clear hc0 hrow H1 H2 hc2
      by_cases hin : inH m (-1) d.states.length
      case neg =>
        have HW := Lib.hid (ref13_in_of m (-1) d.states.length false (by rw [inB_false]; exact hin))
        have HF := Lib.hid (fun w' hb => HN.out w' hb (fun h => hin (h.hI _ HMi.out)))
        clear hin HS2 HN HY
        go_wp2
        go_quiet ((go_at_call 41; exact Calls.quiet_of_same (HW.out _)))
        go_wp2
        exact HF.out _ (pw_below_drewN HB.out _)
      have HW := Lib.hid (ref13_in_of m (-1) d.states.length true (by rw [inB_true]; exact hin))
      have HT2 := Lib.hid (HS2.out hin)
      clear hin HS2 HMi
      go_wp2
      go_quiet ((go_at_call 41; exact Calls.quiet_of_same (HW.out _)))
      go_wp2
      clear hk0 hk1 hk3 hc3 HW
      go_loopw [4] (fun k wr => ∃ q : Nat, q ≤ row.length ∧ k = .int .i64 q ∧ (∀ n ∈ row.take q, inH n (-1) d.fields.length) ∧ Below w.heap.size w wr ∧ Blk wr w.heap.size TRW3 (WV.cells ⟨some ad, c0, some ad2, c1, A2, c2, A3, c3, A4, c4⟩ d)) (fun k _ => row.length - (intOf k).toNat)
      case atStart => exact ⟨0, Nat.zero_le _, rfl, by simp, pw_below_drewN HB.out _, HK.out⟩
      case round =>
        clear HB HK
        obtain ⟨q, hq, rfl, hr1, hb, hk⟩ := hrel
        have H1 := Lib.hid hr1
        have HB := Lib.hid hb
        have HK := Lib.hid hk
        clear hr1 hb hk
        have hk0 : wr.cell? ⟨w.heap.size, 0, none⟩ = some (.slice (some ad) d.fields.length c0) := HK.out.cell 0
        have hcr := pw_cell_below HB.out HC0.out
        by_cases hlt2 : q < row.length
        · obtain ⟨ad3, hA3, hc2⟩ := int_at HRow.out hlt2
          have hc3 := pw_cell_below HB.out hc2
          have HS2 := Lib.hid (all_take (P := fun n => inH n (-1) d.fields.length) hlt2 H1.out)
          have HM2 := Lib.hid (List.getElem_mem hlt2)
          generalize row[q] = n at *
          subst hA3
          clear hc2 H1
          by_cases hin : inH n (-1) d.fields.length
          · have HW := Lib.hid (ref13_in_of n (-1) d.fields.length true (by rw [inB_true]; exact hin))
            have HT := Lib.hid (HS2.out hin)
            clear hin HS2
            go_wp2
            go_quiet ((go_at_call 41; exact Calls.quiet_of_same (HW.out _)))
            go_wp2
            go_roundw
            case rel => exact ⟨q + 1, by omega, by go_num, HT.out, pw_below_drewN HB.out _, HK.out⟩
            case measure => simp [intOf]; omega
          · have HW := Lib.hid (ref13_in_of n (-1) d.fields.length false (by rw [inB_false]; exact hin))
            have HF := Lib.hid (fun w' hb => HN.out w' hb (fun h => hin (h.hF _ HMem.out _ HM2.out)))
            clear hin HS2 HN HY
            go_wp2
            go_quiet ((go_at_call 41; exact Calls.quiet_of_same (HW.out _)))
            go_wp2
            exact HF.out _ (pw_below_drewN HB.out _)
        · obtain rfl : q = row.length := by omega
          have HT := Lib.hid (HS1.out (all_len H1.out))
          clear HS1 H1
          go_wp2
          go_roundw
          case rel => exact ⟨j + 1, by omega, by go_num, HT.out, HT2.out, HB.out, HK.out⟩
          case measure => simp [intOf]; omega
    · obtain rfl : j = d.fields.length := by omega
      have HF1 := Lib.hid (all_len H1.out)
      have HF2 := Lib.hid (all_len (P := fun n => inH n (-1) d.states.length) (l := d.infos) (by rw [E1.out]; exact H2.out))
      clear H1 H2 hlt hj hk1 hk3
      go_wp2
      clear hk0
      go_loopw [5] (fun k wr => ∃ q : Nat, q ≤ d.states.length ∧ k = .int .i64 q ∧ (∀ n ∈ d.states.take q, inH n 0 3) ∧ Below w.heap.size w wr ∧ Blk wr w.heap.size TRW3 (v.cells d)) (fun k _ => d.states.length - (intOf k).toNat)
      case atStart => exact ⟨0, Nat.zero_le _, rfl, by simp, HB.out, HK.out⟩
      case round =>
        clear HB HK
        obtain ⟨q, hq, rfl, hr1, hb, hk⟩ := hrel
        have H1 := Lib.hid hr1
        have HB := Lib.hid hb
        have HK := Lib.hid hk
        clear hr1 hb hk
        have hk3 : wr.cell? ⟨w.heap.size, 3, none⟩ = some (.slice v.A3 d.states.length v.c3) := HK.out.cell 3
        by_cases hlt2 : q < d.states.length
        · obtain ⟨ad2, hA2, hc2⟩ := int_at HV.out.h3 hlt2
          have hc3 : wr.cell? (ad2.add q) = some (.int .i64 d.states[q]) := pw_cell_below HB.out hc2
          have HS2 := Lib.hid (all_take (P := fun n => inH n 0 3) hlt2 H1.out)
          have HM2 := Lib.hid (List.getElem_mem hlt2)
          generalize d.states[q] = n at *
          obtain ⟨A0, c0, A1, c1, A2, c2, A3, c3, A4, c4⟩ := v
          simp only at hA2 hk3
          subst hA2
          clear hc2 H1
          by_cases hin : inH n 0 3
          · have HW := Lib.hid (ref13_in_of n 0 3 true (by rw [inB_true]; exact hin))
            have HT := Lib.hid (HS2.out hin)
            clear hin HS2
            go_wp2_with fail
            refine (HW.out _).mono ?_
            rintro e w1 ⟨rfl, rfl⟩
            go_wp2
            go_roundw
            case rel => exact ⟨q + 1, by omega, by go_num, HT.out, HB.out, HK.out⟩
            case measure => simp [intOf]; omega
          · have HW := Lib.hid (ref13_in_of n 0 3 false (by rw [inB_false]; exact hin))
            have HF := Lib.hid (HN.out wr HB.out (fun h => hin (h.hS _ HM2.out)))
            clear hin HS2 HN HY
            go_wp2_with fail
            refine (HW.out _).mono ?_
            rintro e w1 ⟨rfl, rfl⟩
            go_wp2
            exact HF.out
        · obtain rfl : q = d.states.length := by omega
          have HF := Lib.hid (HY.out wr HB.out ⟨E1.out, E2.out, E4.out, HF1.out, HF2.out, all_len H1.out⟩)
          clear HY HN H1 HB HF1 HF2
          go_wp2
          exact HF.out
end Go.Proofs.YtphhdmopfmelbaaGreat

/- larchref13: Step, line by line. Written by p_step.py. -/
namespace Go.Proofs.YtphhdmopfmelbaaGreat
open Go.RowKit Go.Proofs.YtphhdmopfmelbaaGreatW.PrintWords
set_option linter.unusedVariables false
set_option linter.unusedSimpArgs false

/-- The document's world and one helper, in memory. -/
structure StAt (wb wz w : World) (bw hb : Nat) (d : WD) (fv iv mv sv zv : Value) (us : List Value) (scx : Int) (s : HS) : Prop where
  below : Below wb.heap.size wb w
  lw : wb.heap.size ≤ bw
  lh : wb.heap.size ≤ hb
  box : Blk w bw TRW3 [fv, iv, mv, sv, zv]
  out : OutW wb.heap.size d fv iv mv sv zv us w
  hlp : Blk w hb THL (hcells scx s)
  fr : Fr wz w (fun k => OutFoot fv iv mv sv zv us k ∨ k = hb)
section
variable {wb wz w w' : World} {bw hb : Nat} {d d' : WD} {fv iv mv sv zv : Value} {us : List Value} {scx : Int} {s s' : HS}
theorem StAt.hset (h : StAt wb wz w bw hb d fv iv mv sv zv us scx s) (hf : Fr w w' (fun k => k = hb)) (hb' : Blk w' hb THL (hcells scx s')) : StAt wb wz w' bw hb d fv iv mv sv zv us scx s' :=
  ⟨h.below.trans (hf.below h.below.size (fun k hk => hk ▸ h.lh)), h.lw, h.lh, hf.blk h.box (fun e => absurd ((e ▸ h.box : Blk w hb TRW3 _).inj h.hlp).1 (by decide)),
    h.out.other hf (fun k hk => ⟨THL, _, hk ▸ h.hlp, by decide, by decide, by decide⟩), hb', h.fr.trans hf (fun _ _ hk => .inr hk)⟩
theorem StAt.oset (h : StAt wb wz w bw hb d fv iv mv sv zv us scx s) (ho : OutW wb.heap.size d' fv iv mv sv zv us w') (hf : Fr w w' (OutFoot fv iv mv sv zv us)) : StAt wb wz w' bw hb d' fv iv mv sv zv us scx s := by
  refine ⟨h.below.trans (hf.below h.below.size (fun k hk => (h.out.foot hk).1)), h.lw, h.lh, hf.blk h.box (fun hk => ?_), ho, hf.blk h.hlp (fun hk => ?_), h.fr.trans hf (fun _ _ hk => .inl hk)⟩
  · obtain ⟨_, _, T, ys, hb, hT⟩ := h.out.foot hk
    have := (hb.inj h.box).1
    rcases hT with rfl | rfl | rfl <;> exact absurd this (by decide)
  · obtain ⟨_, _, T, ys, hb, hT⟩ := h.out.foot hk
    have := (hb.inj h.hlp).1
    rcases hT with rfl | rfl | rfl <;> exact absurd this (by decide)
theorem StAt.more (h : StAt wb wz w bw hb d fv iv mv sv zv us scx s) (hb' : Below w.heap.size w w') : StAt wb wz w' bw hb d fv iv mv sv zv us scx s :=
  ⟨h.below.trans (hb'.mono h.below.size), h.lw, h.lh, h.box.below hb' h.box.lt, h.out.below hb', h.hlp.below hb' h.hlp.lt, h.fr.trans (Fr.of_below0 (S := fun _ => False) hb') (fun _ _ hk => hk.elim)⟩
theorem StAt.from_ (h : StAt wb wz w bw hb d fv iv mv sv zv us scx s) : StAt wb w w bw hb d fv iv mv sv zv us scx s := ⟨h.below, h.lw, h.lh, h.box, h.out, h.hlp, Fr.refl _ _⟩
/-- A plan's box lies apart. -/
theorem StAt.apart {k : Nat} {xs : List Value} (h : StAt wb wz w bw hb d fv iv mv sv zv us scx s) (hp : Blk w k 38 xs) : ¬ OutFoot fv iv mv sv zv us k := fun hk => by
  obtain ⟨_, _, T, ys, hb, hT⟩ := h.out.foot hk
  have := (hb.inj hp).1
  rcases hT with rfl | rfl | rfl <;> exact absurd this (by decide)
end
/-- The helper stands where it may. -/
structure StOk (d : WD) (p : PlanD) (scx : Int) (s : HS) : Prop where
  e1 : d.infos.length = d.fields.length
  e2 : d.marks.length = d.fields.length
  e4 : d.frozen.length = d.states.length
  fits : p.Fits d
  s0 : 0 ≤ scx
  s1 : scx < d.states.length
  ln : s.line = 1 ∨ s.line = 2 ∨ s.line = 3 ∨ s.line = 4 ∨ s.line = 5 ∨ s.line = 6 ∨ s.line = 7 ∨ s.line = 8
  ii : s.line = 1 ∨ s.line = 2 ∨ s.line = 6 → s.i < p.V.length
  il : s.i ≤ p.V.length
  sz : p.V.length ≤ 64
/-- What Step does. -/
def StepPost (wb wz : World) (bw hb : Nat) (d : WD) (p : PlanD) (fv iv mv sv zv : Value) (us : List Value) (scx : Int) (s : HS) (e : Ending) (w' : World) : Prop :=
  e = .returned (.tuple #[.int .i64 (stepH d s p scx).1, .bool (stepH d s p scx).2.1, .int .i64 (stepH d s p scx).2.2.1]) ∧ StAt wb wz w' bw hb (stepH d s p scx).2.2.2.2 fv iv mv sv zv us scx (stepH d s p scx).2.2.2.1

set_option maxHeartbeats 4000000 in
set_option maxRecDepth 100000 in
theorem ref13_Step1 (wb w : World) (bw hb : Nat) (d : WD) (x : PX) (fv iv mv sv zv : Value) (us : List Value) (scx : Int) (i : Nat) (hx : x.Reads wb) (h : StAt wb w w bw hb d fv iv mv sv zv us scx ⟨1, i⟩) (ok : StOk d x.p scx ⟨1, i⟩) :
    Calls Tryz.prog 44 #[.pointer (some ⟨bw, 0, none⟩), .pointer (some ⟨hb, 0, none⟩), x.val] w (StepPost wb w bw hb d x.p fv iv mv sv zv us scx ⟨1, i⟩) := by
  obtain ⟨p, B0, k0, B1, k1, B2, k2⟩ := x
  refine calls_hide fun Q HQ => ?_
  have HQ' := Lib.hid HQ
  have HX := Lib.hid hx
  have OK := Lib.hid (show StOk d p scx _ from ok)
  have hbx := (Below.refl w.heap.size w).alloc (Nat.le_refl _) (.cells #[.slice B0 p.V.length k0, .slice B1 p.infos.length k1, .slice B2 p.fin.length k2, .int .i64 p.at_, .int .i64 p.fld, .int .i64 p.old, .int .i64 p.new] 38)
  have HS0 := Lib.hid (h.more hbx)
  have hpb := Blk.new w 38 [.slice B0 p.V.length k0, .slice B1 p.infos.length k1, .slice B2 p.fin.length k2, .int .i64 p.at_, .int .i64 p.fld, .int .i64 p.old, .int .i64 p.new]
  have HPB := Lib.hid hpb
  have hlt0 := h.hlp.lt
  have hlt1 := h.box.lt
  have HNE := Lib.hid (show ¬ w.heap.size = hb ∧ ¬ w.heap.size = bw by constructor <;> omega)
  clear HQ hx h ok hpb hbx hlt0 hlt1
  go_enter Tryz.func44, Tryz.ntmps44
  have g0 := HPB.out.cell 0
  have g1 := HPB.out.cell 1
  have g2 := HPB.out.cell 2
  have g3 := HPB.out.cell 3
  have g4 := HPB.out.cell 4
  have g5 := HPB.out.cell 5
  have g6 := HPB.out.cell 6
  have h0 := HS0.out.hlp.cell 0
  have h1 := HS0.out.hlp.cell 1
  have h2 := HS0.out.hlp.cell 2
  have b0 := HS0.out.box.cell 0
  have b1 := HS0.out.box.cell 1
  have b2 := HS0.out.box.cell 2
  have b3 := HS0.out.box.cell 3
  have b4 := HS0.out.box.cell 4
  have f1 := HS0.out.hlp.free ⟨hb, 1, none⟩ rfl
  have f2 := HS0.out.hlp.free ⟨hb, 2, none⟩ rfl
  simp only [List.getElem?_cons_zero, List.getElem?_cons_succ] at g0 g1 g2 g3 g4 g5 g6 h0 h1 h2 b0 b1 b2 b3 b4
  skip
  have hi : i < p.V.length := OK.out.ii (by first | exact .inl rfl | exact .inr (.inl rfl) | exact .inr (.inr rfl))
  obtain ⟨adv, hAv, hcv0⟩ := int_at HX.out.h0 hi
  have hcv := pw_cell_below HS0.out.below hcv0
  have hrb := OK.out.fits.hV _ (List.getElem_mem hi)
  have HR := Lib.hid (show p.V.getD i 0 = p.V[i] by simp [List.getD_eq_getElem?_getD, List.getElem?_eq_getElem hi])
  simp only at hAv hcv hrb
  generalize p.V[i] = r at *
  subst hAv
  have hr0 : 0 ≤ r := hrb.1
  have hr1 : r < d.fields.length := hrb.2
  have e1 := OK.out.e1
  have e2 := OK.out.e2
  clear hcv0 hrb
  have hri : r.toNat < d.infos.length := by omega
  obtain ⟨adi, ci, ei, hci, hseti⟩ := HS0.out.out.atI hri
  have hr2 : r < d.infos.length := by omega
  have HSET := Lib.hid hseti
  subst ei
  clear hseti e1 e2
  have hi2 : i < p.infos.length := by have h : p.infos.length = p.V.length := OK.out.fits.v1; omega
  obtain ⟨adm, hAm, hcm0⟩ := int_at HX.out.h1 (j := i) (show i < p.infos.length from hi2)
  have hcm := pw_cell_below HS0.out.below hcm0
  have HN := Lib.hid (show p.infos.getD i 0 = p.infos[i] by simp [List.getD_eq_getElem?_getD, List.getElem?_eq_getElem hi2])
  simp only at hAm hcm
  generalize p.infos[i] = n at *
  subst hAm
  clear hcm0
  by_cases he : d.infos.getD r.toNat 0 = n
  · have HEQ : stepH d ⟨1, i⟩ p scx = (5, false, 0, nextS p i, { d with infos := d.infos.set r.toNat scx }) := by
      unfold stepH; rw [if_pos rfl, HR.out, HN.out, if_pos he]
    unfold StepPost at HQ'
    rw [HEQ] at HQ'
    clear HEQ
    rw [he] at hci
    generalize d.infos.getD r.toNat 0 = q at *
    clear he
    go_wp2
    generalize w.alloc (.cells #[.slice (some adv) p.V.length k0, .slice (some adm) p.infos.length k1, .slice B2 p.fin.length k2, .int .i64 p.at_, .int .i64 p.fld, .int .i64 p.old, .int .i64 p.new] 38) = w0 at *
    go_quiet (fail)
    revert nq
    intro n1
    go_wp2
    go_quiet (fail)
    revert nq
    intro n2
    go_wp2_with fail
    have HY := Lib.hid (pw_below_drewN (pw_below_drewN (Below.refl w0.heap.size w0) n1) n2)
    generalize ((w0.drewN n1).drewN n2) = wy at *
    have HSy := Lib.hid (HS0.out.more HY.out)
    have HPy := Lib.hid (HPB.out.below HY.out HPB.out.lt)
    have HSw := Lib.hid (HSy.out.more (Below.refl wy.heap.size wy).drew)
    have HPw := Lib.hid (HPy.out.below (Below.refl wy.heap.size wy).drew HPy.out.lt)
    clear g0 g1 g2 g3 g4 g5 g6 h0 h1 h2 b0 b1 b2 b3 b4 f1 f2
    have g0 := HPy.out.cell 0
    have g1 := HPy.out.cell 1
    have g2 := HPy.out.cell 2
    have g3 := HPy.out.cell 3
    have g4 := HPy.out.cell 4
    have g5 := HPy.out.cell 5
    have g6 := HPy.out.cell 6
    have h0 := HSy.out.hlp.cell 0
    have h1 := HSy.out.hlp.cell 1
    have h2 := HSy.out.hlp.cell 2
    have b0 := HSy.out.box.cell 0
    have b1 := HSy.out.box.cell 1
    have b2 := HSy.out.box.cell 2
    have b3 := HSy.out.box.cell 3
    have b4 := HSy.out.box.cell 4
    have f1 := HSy.out.hlp.free ⟨hb, 1, none⟩ rfl
    have f2 := HSy.out.hlp.free ⟨hb, 2, none⟩ rfl
    simp only [List.getElem?_cons_zero, List.getElem?_cons_succ] at g0 g1 g2 g3 g4 g5 g6 h0 h1 h2 b0 b1 b2 b3 b4
    obtain ⟨adx, cx, ex, hcx, hsx⟩ := HSw.out.out.atI hri
    obtain ⟨rfl, rfl⟩ : adi = adx ∧ ci = cx := by simp at ex; exact ex
    obtain ⟨hfx, hst⟩ := hsx _ HSw.out.out
    have HST := Lib.hid (HSw.out.oset (hst scx).1 (hst scx).2)
    have HPT := Lib.hid ((hst scx).2.blk HPw.out (HSw.out.apart HPw.out))
    clear ex hsx hst
    go_wp2_with fail
    refine wp_region_still_tail 10 (by kernel_rfl) (by kernel_rfl) ?_
    simp only [List.take_succ_cons, List.take_zero, List.drop_succ_cons, List.drop_zero]
    iterate 10 still_step
    refine wpStill_nil ?_
    change wpList _ _ _ _ _ wy.drew
    generalize wy.drew = wz at *
    clear g0 g1 g2 g3 g4 g5 g6 h0 h1 h2 b0 b1 b2 b3 b4 f1 f2
    have g0 := HPT.out.cell 0
    have g1 := HPT.out.cell 1
    have g2 := HPT.out.cell 2
    have g3 := HPT.out.cell 3
    have g4 := HPT.out.cell 4
    have g5 := HPT.out.cell 5
    have g6 := HPT.out.cell 6
    have h0 := HST.out.hlp.cell 0
    have h1 := HST.out.hlp.cell 1
    have h2 := HST.out.hlp.cell 2
    have b0 := HST.out.box.cell 0
    have b1 := HST.out.box.cell 1
    have b2 := HST.out.box.cell 2
    have b3 := HST.out.box.cell 3
    have b4 := HST.out.box.cell 4
    have f1 := HST.out.hlp.free ⟨hb, 1, none⟩ rfl
    have f2 := HST.out.hlp.free ⟨hb, 2, none⟩ rfl
    simp only [List.getElem?_cons_zero, List.getElem?_cons_succ] at g0 g1 g2 g3 g4 g5 g6 h0 h1 h2 b0 b1 b2 b3 b4
    have HNX := Lib.hid (ref13_next _ hb scx 1 i ⟨p, some adv, k0, some adm, k1, B2, k2⟩ HST.out.hlp (by have := OK.out.sz; have := OK.out.il; simp only at this; omega) (by show p.V.length < 1000000; have := OK.out.sz; omega))
    go_wp2_with fail
    refine HNX.out.mono ?_
    rintro e w9 ⟨rfl, hb9, hf9⟩
    have HS9 := Lib.hid (HST.out.hset hf9 hb9)
    clear hb9 hf9 HNX
    go_wp2
    (try simp only [Exit.inBlock, Exit.then])
    refine bodyPost_ret (results_tmp3 rfl _ _ _) rfl ?_
    exact HQ'.out _ _ ⟨rfl, HS9.out⟩
  · have HEQ : stepH d ⟨1, i⟩ p scx = (5, false, 0, ⟨2, i⟩, d) := by
      unfold stepH; rw [if_pos rfl, HR.out, HN.out, if_neg he]
    unfold StepPost at HQ'
    rw [HEQ] at HQ'
    clear HEQ
    generalize d.infos.getD r.toNat 0 = q at *
    have hqn : (q != n) = true := by rw [bne_iff_ne]; exact he
    go_wp2
    generalize w.alloc (.cells #[.slice (some adv) p.V.length k0, .slice (some adm) p.infos.length k1, .slice B2 p.fin.length k2, .int .i64 p.at_, .int .i64 p.fld, .int .i64 p.old, .int .i64 p.new] 38) = w0 at *
    go_quiet (fail)
    revert nq
    intro n1
    go_wp2
    go_quiet (fail)
    revert nq
    intro n2
    go_wp2
    (try simp only [Exit.inBlock, Exit.then])
    refine bodyPost_ret (results_tmp3 rfl _ _ _) rfl ?_
    exact HQ'.out _ _ ⟨rfl, (HS0.out.more (pw_below_drewN (Below.refl w0.heap.size w0) _)).hset (fr_one rfl) (HS0.out.hlp.set 1 _)⟩

set_option maxHeartbeats 4000000 in
set_option maxRecDepth 100000 in
theorem ref13_Step2 (wb w : World) (bw hb : Nat) (d : WD) (x : PX) (fv iv mv sv zv : Value) (us : List Value) (scx : Int) (i : Nat) (hx : x.Reads wb) (h : StAt wb w w bw hb d fv iv mv sv zv us scx ⟨2, i⟩) (ok : StOk d x.p scx ⟨2, i⟩) :
    Calls Tryz.prog 44 #[.pointer (some ⟨bw, 0, none⟩), .pointer (some ⟨hb, 0, none⟩), x.val] w (StepPost wb w bw hb d x.p fv iv mv sv zv us scx ⟨2, i⟩) := by
  obtain ⟨p, B0, k0, B1, k1, B2, k2⟩ := x
  refine calls_hide fun Q HQ => ?_
  have HQ' := Lib.hid HQ
  have HX := Lib.hid hx
  have OK := Lib.hid (show StOk d p scx _ from ok)
  have hbx := (Below.refl w.heap.size w).alloc (Nat.le_refl _) (.cells #[.slice B0 p.V.length k0, .slice B1 p.infos.length k1, .slice B2 p.fin.length k2, .int .i64 p.at_, .int .i64 p.fld, .int .i64 p.old, .int .i64 p.new] 38)
  have HS0 := Lib.hid (h.more hbx)
  have hpb := Blk.new w 38 [.slice B0 p.V.length k0, .slice B1 p.infos.length k1, .slice B2 p.fin.length k2, .int .i64 p.at_, .int .i64 p.fld, .int .i64 p.old, .int .i64 p.new]
  have HPB := Lib.hid hpb
  have hlt0 := h.hlp.lt
  have hlt1 := h.box.lt
  have HNE := Lib.hid (show ¬ w.heap.size = hb ∧ ¬ w.heap.size = bw by constructor <;> omega)
  clear HQ hx h ok hpb hbx hlt0 hlt1
  go_enter Tryz.func44, Tryz.ntmps44
  have g0 := HPB.out.cell 0
  have g1 := HPB.out.cell 1
  have g2 := HPB.out.cell 2
  have g3 := HPB.out.cell 3
  have g4 := HPB.out.cell 4
  have g5 := HPB.out.cell 5
  have g6 := HPB.out.cell 6
  have h0 := HS0.out.hlp.cell 0
  have h1 := HS0.out.hlp.cell 1
  have h2 := HS0.out.hlp.cell 2
  have b0 := HS0.out.box.cell 0
  have b1 := HS0.out.box.cell 1
  have b2 := HS0.out.box.cell 2
  have b3 := HS0.out.box.cell 3
  have b4 := HS0.out.box.cell 4
  have f1 := HS0.out.hlp.free ⟨hb, 1, none⟩ rfl
  have f2 := HS0.out.hlp.free ⟨hb, 2, none⟩ rfl
  simp only [List.getElem?_cons_zero, List.getElem?_cons_succ] at g0 g1 g2 g3 g4 g5 g6 h0 h1 h2 b0 b1 b2 b3 b4
  skip
  have hi : i < p.V.length := OK.out.ii (by first | exact .inl rfl | exact .inr (.inl rfl) | exact .inr (.inr rfl))
  obtain ⟨adv, hAv, hcv0⟩ := int_at HX.out.h0 hi
  have hcv := pw_cell_below HS0.out.below hcv0
  have hrb := OK.out.fits.hV _ (List.getElem_mem hi)
  have HR := Lib.hid (show p.V.getD i 0 = p.V[i] by simp [List.getD_eq_getElem?_getD, List.getElem?_eq_getElem hi])
  simp only at hAv hcv hrb
  generalize p.V[i] = r at *
  subst hAv
  have hr0 : 0 ≤ r := hrb.1
  have hr1 : r < d.fields.length := hrb.2
  have e1 := OK.out.e1
  have e2 := OK.out.e2
  clear hcv0 hrb
  have hri : r.toNat < d.infos.length := by omega
  obtain ⟨adi, ci, ei, hci, hseti⟩ := HS0.out.out.atI hri
  have hr2 : r < d.infos.length := by omega
  have HSET := Lib.hid hseti
  subst ei
  clear hseti e1 e2
  by_cases he : d.infos.getD r.toNat 0 = scx
  · have HEQ : stepH d ⟨2, i⟩ p scx = (1, false, 0, nextS p i, d) := by
      unfold stepH; rw [if_neg (show ¬ (2 : Int) = 1 by decide)]; rw [if_pos rfl]; rw [HR.out, if_pos he]
    unfold StepPost at HQ'
    rw [HEQ] at HQ'
    clear HEQ
    rw [he] at hci
    generalize d.infos.getD r.toNat 0 = q at *
    clear he
    go_wp2
    generalize w.alloc (.cells #[.slice (some adv) p.V.length k0, .slice B1 p.infos.length k1, .slice B2 p.fin.length k2, .int .i64 p.at_, .int .i64 p.fld, .int .i64 p.old, .int .i64 p.new] 38) = w0 at *
    go_quiet (fail)
    revert nq
    intro n1
    have HSy := Lib.hid (HS0.out.more (pw_below_drewN (Below.refl w0.heap.size w0) n1))
    have HNX := Lib.hid (ref13_next _ hb scx 2 i ⟨p, some adv, k0, B1, k1, B2, k2⟩ HSy.out.hlp (by have := OK.out.sz; have := OK.out.il; simp only at this; omega) (by show p.V.length < 1000000; have := OK.out.sz; omega))
    go_wp2_with fail
    refine HNX.out.mono ?_
    rintro e w9 ⟨rfl, hb9, hf9⟩
    have HS9 := Lib.hid (HSy.out.hset hf9 hb9)
    clear hb9 hf9 HNX
    go_wp2
    (try simp only [Exit.inBlock, Exit.then])
    refine bodyPost_ret (results_tmp3 rfl _ _ _) rfl ?_
    exact HQ'.out _ _ ⟨rfl, HS9.out⟩
  · have HEQ : stepH d ⟨2, i⟩ p scx = (1, false, 0, ⟨3, i⟩, d) := by
      unfold stepH; rw [if_neg (show ¬ (2 : Int) = 1 by decide)]; rw [if_pos rfl]; rw [HR.out, if_neg he]
    unfold StepPost at HQ'
    rw [HEQ] at HQ'
    clear HEQ
    generalize d.infos.getD r.toNat 0 = q at *
    have hqn : (q == scx) = false := by rw [beq_eq_false_iff_ne]; exact he
    go_wp2
    generalize w.alloc (.cells #[.slice (some adv) p.V.length k0, .slice B1 p.infos.length k1, .slice B2 p.fin.length k2, .int .i64 p.at_, .int .i64 p.fld, .int .i64 p.old, .int .i64 p.new] 38) = w0 at *
    go_quiet (fail)
    revert nq
    intro n1
    go_wp2
    (try simp only [Exit.inBlock, Exit.then])
    refine bodyPost_ret (results_tmp3 rfl _ _ _) rfl ?_
    exact HQ'.out _ _ ⟨rfl, (HS0.out.more (pw_below_drewN (Below.refl w0.heap.size w0) n1)).hset (fr_one rfl) (HS0.out.hlp.set 1 _)⟩

set_option maxHeartbeats 4000000 in
set_option maxRecDepth 100000 in
theorem ref13_Step3 (wb w : World) (bw hb : Nat) (d : WD) (x : PX) (fv iv mv sv zv : Value) (us : List Value) (scx : Int) (i : Nat) (hx : x.Reads wb) (h : StAt wb w w bw hb d fv iv mv sv zv us scx ⟨3, i⟩) (ok : StOk d x.p scx ⟨3, i⟩) :
    Calls Tryz.prog 44 #[.pointer (some ⟨bw, 0, none⟩), .pointer (some ⟨hb, 0, none⟩), x.val] w (StepPost wb w bw hb d x.p fv iv mv sv zv us scx ⟨3, i⟩) := by
  obtain ⟨p, B0, k0, B1, k1, B2, k2⟩ := x
  refine calls_hide fun Q HQ => ?_
  have HQ' := Lib.hid HQ
  have HX := Lib.hid hx
  have OK := Lib.hid (show StOk d p scx _ from ok)
  have hbx := (Below.refl w.heap.size w).alloc (Nat.le_refl _) (.cells #[.slice B0 p.V.length k0, .slice B1 p.infos.length k1, .slice B2 p.fin.length k2, .int .i64 p.at_, .int .i64 p.fld, .int .i64 p.old, .int .i64 p.new] 38)
  have HS0 := Lib.hid (h.more hbx)
  have hpb := Blk.new w 38 [.slice B0 p.V.length k0, .slice B1 p.infos.length k1, .slice B2 p.fin.length k2, .int .i64 p.at_, .int .i64 p.fld, .int .i64 p.old, .int .i64 p.new]
  have HPB := Lib.hid hpb
  have hlt0 := h.hlp.lt
  have hlt1 := h.box.lt
  have HNE := Lib.hid (show ¬ w.heap.size = hb ∧ ¬ w.heap.size = bw by constructor <;> omega)
  clear HQ hx h ok hpb hbx hlt0 hlt1
  go_enter Tryz.func44, Tryz.ntmps44
  have g0 := HPB.out.cell 0
  have g1 := HPB.out.cell 1
  have g2 := HPB.out.cell 2
  have g3 := HPB.out.cell 3
  have g4 := HPB.out.cell 4
  have g5 := HPB.out.cell 5
  have g6 := HPB.out.cell 6
  have h0 := HS0.out.hlp.cell 0
  have h1 := HS0.out.hlp.cell 1
  have h2 := HS0.out.hlp.cell 2
  have b0 := HS0.out.box.cell 0
  have b1 := HS0.out.box.cell 1
  have b2 := HS0.out.box.cell 2
  have b3 := HS0.out.box.cell 3
  have b4 := HS0.out.box.cell 4
  have f1 := HS0.out.hlp.free ⟨hb, 1, none⟩ rfl
  have f2 := HS0.out.hlp.free ⟨hb, 2, none⟩ rfl
  simp only [List.getElem?_cons_zero, List.getElem?_cons_succ] at g0 g1 g2 g3 g4 g5 g6 h0 h1 h2 b0 b1 b2 b3 b4
  skip
  have hs0 : 0 ≤ scx := OK.out.s0
  have hs1 : scx.toNat < d.frozen.length := by have := OK.out.s1; have := OK.out.e4; omega
  have hs2 : scx < d.frozen.length := by have := OK.out.s1; have := OK.out.e4; omega
  obtain ⟨adz, cz, ez, hcz, hsetz⟩ := HS0.out.out.atZ hs1
  subst ez
  clear hsetz
  have HEQ : stepH d ⟨3, i⟩ p scx = (1, d.frozen.getD scx.toNat false, 1, ⟨4, i⟩, d) := by
    unfold stepH; rw [if_neg (show ¬ (3 : Int) = 1 by decide)]; rw [if_neg (show ¬ (3 : Int) = 2 by decide)]; rw [if_pos rfl]
  unfold StepPost at HQ'
  rw [HEQ] at HQ'
  clear HEQ
  have HS1 := Lib.hid (show StAt _ _ _ _ _ _ _ _ _ _ _ _ _ ⟨4, i⟩ from HS0.out.hset (fr_one rfl) (HS0.out.hlp.set 1 (.int .i64 4)))
  have HP1 := Lib.hid (HPB.out.other ⟨hb, 1, none⟩ (.int .i64 4) HNE.out.1)
  have zg0 := HP1.out.cell 0
  have zg1 := HP1.out.cell 1
  have zg2 := HP1.out.cell 2
  have zg3 := HP1.out.cell 3
  have zg4 := HP1.out.cell 4
  have zg5 := HP1.out.cell 5
  have zg6 := HP1.out.cell 6
  have zh0 := HS1.out.hlp.cell 0
  have zh1 := HS1.out.hlp.cell 1
  have zh2 := HS1.out.hlp.cell 2
  have zb0 := HS1.out.box.cell 0
  have zb1 := HS1.out.box.cell 1
  have zb2 := HS1.out.box.cell 2
  have zb3 := HS1.out.box.cell 3
  have zb4 := HS1.out.box.cell 4
  have zf1 := HS1.out.hlp.free ⟨hb, 1, none⟩ rfl
  have zf2 := HS1.out.hlp.free ⟨hb, 2, none⟩ rfl
  simp only [List.getElem?_cons_zero, List.getElem?_cons_succ] at zg0 zg1 zg2 zg3 zg4 zg5 zg6 zh0 zh1 zh2 zb0 zb1 zb2 zb3 zb4
  obtain ⟨adx, cx, ex, hcx, _⟩ := HS1.out.out.atZ hs1
  obtain ⟨rfl, rfl⟩ : adz = adx ∧ cz = cx := by simp at ex; exact ex
  clear ex
  generalize d.frozen.getD scx.toNat false = z at *
  go_wp2
  go_quiet (fail)
  go_wp2
  (try simp only [Exit.inBlock, Exit.then])
  refine bodyPost_ret (results_tmp3 rfl _ _ _) rfl ?_
  exact HQ'.out _ _ ⟨rfl, HS1.out.more (pw_below_drewN (Below.refl _ _) _)⟩
end Go.Proofs.YtphhdmopfmelbaaGreat

/- larchref13: Step, line by line. Written by p_step.py. -/
namespace Go.Proofs.YtphhdmopfmelbaaGreat
open Go.RowKit Go.Proofs.YtphhdmopfmelbaaGreatW.PrintWords
set_option linter.unusedVariables false
set_option linter.unusedSimpArgs false


set_option maxHeartbeats 4000000 in
set_option maxRecDepth 100000 in
theorem ref13_Step4 (wb w : World) (bw hb : Nat) (d : WD) (x : PX) (fv iv mv sv zv : Value) (us : List Value) (scx : Int) (i : Nat) (hx : x.Reads wb) (h : StAt wb w w bw hb d fv iv mv sv zv us scx ⟨4, i⟩) (ok : StOk d x.p scx ⟨4, i⟩) :
    Calls Tryz.prog 44 #[.pointer (some ⟨bw, 0, none⟩), .pointer (some ⟨hb, 0, none⟩), x.val] w (StepPost wb w bw hb d x.p fv iv mv sv zv us scx ⟨4, i⟩) := by
  obtain ⟨p, B0, k0, B1, k1, B2, k2⟩ := x
  refine calls_hide fun Q HQ => ?_
  have HQ' := Lib.hid HQ
  have HX := Lib.hid hx
  have OK := Lib.hid (show StOk d p scx _ from ok)
  have hbx := (Below.refl w.heap.size w).alloc (Nat.le_refl _) (.cells #[.slice B0 p.V.length k0, .slice B1 p.infos.length k1, .slice B2 p.fin.length k2, .int .i64 p.at_, .int .i64 p.fld, .int .i64 p.old, .int .i64 p.new] 38)
  have HS0 := Lib.hid (h.more hbx)
  have hpb := Blk.new w 38 [.slice B0 p.V.length k0, .slice B1 p.infos.length k1, .slice B2 p.fin.length k2, .int .i64 p.at_, .int .i64 p.fld, .int .i64 p.old, .int .i64 p.new]
  have HPB := Lib.hid hpb
  have hlt0 := h.hlp.lt
  have hlt1 := h.box.lt
  have HNE := Lib.hid (show ¬ w.heap.size = hb ∧ ¬ w.heap.size = bw by constructor <;> omega)
  clear HQ hx h ok hpb hbx hlt0 hlt1
  go_enter Tryz.func44, Tryz.ntmps44
  have g0 := HPB.out.cell 0
  have g1 := HPB.out.cell 1
  have g2 := HPB.out.cell 2
  have g3 := HPB.out.cell 3
  have g4 := HPB.out.cell 4
  have g5 := HPB.out.cell 5
  have g6 := HPB.out.cell 6
  have h0 := HS0.out.hlp.cell 0
  have h1 := HS0.out.hlp.cell 1
  have h2 := HS0.out.hlp.cell 2
  have b0 := HS0.out.box.cell 0
  have b1 := HS0.out.box.cell 1
  have b2 := HS0.out.box.cell 2
  have b3 := HS0.out.box.cell 3
  have b4 := HS0.out.box.cell 4
  have f1 := HS0.out.hlp.free ⟨hb, 1, none⟩ rfl
  have f2 := HS0.out.hlp.free ⟨hb, 2, none⟩ rfl
  simp only [List.getElem?_cons_zero, List.getElem?_cons_succ] at g0 g1 g2 g3 g4 g5 g6 h0 h1 h2 b0 b1 b2 b3 b4
  skip
  have hs0 : 0 ≤ scx := OK.out.s0
  have hs1 : scx.toNat < d.states.length := by have := OK.out.s1; omega
  have hs2 : scx < d.states.length := OK.out.s1
  obtain ⟨ads, cs, es, hcs, hsets⟩ := HS0.out.out.atS hs1
  subst es
  clear hsets
  have HEQ : stepH d ⟨4, i⟩ p scx = (2, true, 0, ⟨4, i⟩, { d with states := d.states.set scx.toNat 2 }) := by
    unfold stepH; rw [if_neg (show ¬ (4 : Int) = 1 by decide)]; rw [if_neg (show ¬ (4 : Int) = 2 by decide)]; rw [if_neg (show ¬ (4 : Int) = 3 by decide)]; rw [if_pos rfl]
  unfold StepPost at HQ'
  rw [HEQ] at HQ'
  clear HEQ
  go_wp2_with fail
  generalize w.alloc (.cells #[.slice B0 p.V.length k0, .slice B1 p.infos.length k1, .slice B2 p.fin.length k2, .int .i64 p.at_, .int .i64 p.fld, .int .i64 p.old, .int .i64 p.new] 38) = w0 at *
  have HSy := Lib.hid HS0.out
  have HPy := Lib.hid HPB.out
  have HSw := Lib.hid (HSy.out.more (Below.refl w0.heap.size w0).drew)
  have HPw := Lib.hid (HPy.out.below (Below.refl w0.heap.size w0).drew HPy.out.lt)
  obtain ⟨adx, cx, ex, hcx, hsx⟩ := HSw.out.out.atS hs1
  obtain ⟨rfl, rfl⟩ : ads = adx ∧ cs = cx := by simp at ex; exact ex
  obtain ⟨hfx, hst⟩ := hsx _ HSw.out.out
  have HST := Lib.hid (HSw.out.oset (hst 2).1 (hst 2).2)
  have HPT := Lib.hid ((hst 2).2.blk HPw.out (HSw.out.apart HPw.out))
  clear ex hsx hst
  go_wp2_with fail
  refine wp_region_still_tail 9 (by kernel_rfl) (by kernel_rfl) ?_
  simp only [List.take_succ_cons, List.take_zero, List.drop_succ_cons, List.drop_zero]
  iterate 9 still_step
  refine wpStill_nil ?_
  change wpList _ _ _ _ _ w0.drew
  generalize w0.drew = wz at *
  go_wp2
  (try simp only [Exit.inBlock, Exit.then])
  refine bodyPost_ret (results_tmp3 rfl _ _ _) rfl ?_
  exact HQ'.out _ _ ⟨rfl, HST.out⟩

set_option maxHeartbeats 4000000 in
set_option maxRecDepth 100000 in
theorem ref13_Step5 (wb w : World) (bw hb : Nat) (d : WD) (x : PX) (fv iv mv sv zv : Value) (us : List Value) (scx : Int) (i : Nat) (hx : x.Reads wb) (h : StAt wb w w bw hb d fv iv mv sv zv us scx ⟨5, i⟩) (ok : StOk d x.p scx ⟨5, i⟩) :
    Calls Tryz.prog 44 #[.pointer (some ⟨bw, 0, none⟩), .pointer (some ⟨hb, 0, none⟩), x.val] w (StepPost wb w bw hb d x.p fv iv mv sv zv us scx ⟨5, i⟩) := by
  obtain ⟨p, B0, k0, B1, k1, B2, k2⟩ := x
  refine calls_hide fun Q HQ => ?_
  have HQ' := Lib.hid HQ
  have HX := Lib.hid hx
  have OK := Lib.hid (show StOk d p scx _ from ok)
  have hbx := (Below.refl w.heap.size w).alloc (Nat.le_refl _) (.cells #[.slice B0 p.V.length k0, .slice B1 p.infos.length k1, .slice B2 p.fin.length k2, .int .i64 p.at_, .int .i64 p.fld, .int .i64 p.old, .int .i64 p.new] 38)
  have HS0 := Lib.hid (h.more hbx)
  have hpb := Blk.new w 38 [.slice B0 p.V.length k0, .slice B1 p.infos.length k1, .slice B2 p.fin.length k2, .int .i64 p.at_, .int .i64 p.fld, .int .i64 p.old, .int .i64 p.new]
  have HPB := Lib.hid hpb
  have hlt0 := h.hlp.lt
  have hlt1 := h.box.lt
  have HNE := Lib.hid (show ¬ w.heap.size = hb ∧ ¬ w.heap.size = bw by constructor <;> omega)
  clear HQ hx h ok hpb hbx hlt0 hlt1
  go_enter Tryz.func44, Tryz.ntmps44
  have g0 := HPB.out.cell 0
  have g1 := HPB.out.cell 1
  have g2 := HPB.out.cell 2
  have g3 := HPB.out.cell 3
  have g4 := HPB.out.cell 4
  have g5 := HPB.out.cell 5
  have g6 := HPB.out.cell 6
  have h0 := HS0.out.hlp.cell 0
  have h1 := HS0.out.hlp.cell 1
  have h2 := HS0.out.hlp.cell 2
  have b0 := HS0.out.box.cell 0
  have b1 := HS0.out.box.cell 1
  have b2 := HS0.out.box.cell 2
  have b3 := HS0.out.box.cell 3
  have b4 := HS0.out.box.cell 4
  have f1 := HS0.out.hlp.free ⟨hb, 1, none⟩ rfl
  have f2 := HS0.out.hlp.free ⟨hb, 2, none⟩ rfl
  simp only [List.getElem?_cons_zero, List.getElem?_cons_succ] at g0 g1 g2 g3 g4 g5 g6 h0 h1 h2 b0 b1 b2 b3 b4
  skip
  have hs0 : 0 ≤ scx := OK.out.s0
  have hs1 : scx.toNat < d.frozen.length := by have := OK.out.s1; have := OK.out.e4; omega
  have hs2 : scx < d.frozen.length := by have := OK.out.s1; have := OK.out.e4; omega
  obtain ⟨adz, cz, ez, hcz, hsetz⟩ := HS0.out.out.atZ hs1
  subst ez
  clear hsetz
  have HEQ : stepH d ⟨5, i⟩ p scx = (2, false, 0, marksS p 0, { d with frozen := d.frozen.set scx.toNat true }) := by
    unfold stepH; rw [if_neg (show ¬ (5 : Int) = 1 by decide)]; rw [if_neg (show ¬ (5 : Int) = 2 by decide)]; rw [if_neg (show ¬ (5 : Int) = 3 by decide)]; rw [if_neg (show ¬ (5 : Int) = 4 by decide)]; rw [if_pos rfl]
  unfold StepPost at HQ'
  rw [HEQ] at HQ'
  clear HEQ
  go_wp2_with fail
  generalize w.alloc (.cells #[.slice B0 p.V.length k0, .slice B1 p.infos.length k1, .slice B2 p.fin.length k2, .int .i64 p.at_, .int .i64 p.fld, .int .i64 p.old, .int .i64 p.new] 38) = w0 at *
  have HSy := Lib.hid HS0.out
  have HPy := Lib.hid HPB.out
  have HSw := Lib.hid (HSy.out.more (Below.refl w0.heap.size w0).drew)
  have HPw := Lib.hid (HPy.out.below (Below.refl w0.heap.size w0).drew HPy.out.lt)
  obtain ⟨adx, cx, ex, hcx, hsx⟩ := HSw.out.out.atZ hs1
  obtain ⟨rfl, rfl⟩ : adz = adx ∧ cz = cx := by simp at ex; exact ex
  obtain ⟨hfx, hst⟩ := hsx _ HSw.out.out
  have HST := Lib.hid (HSw.out.oset (hst true).1 (hst true).2)
  have HPT := Lib.hid ((hst true).2.blk HPw.out (HSw.out.apart HPw.out))
  clear ex hsx hst
  have HS1 := Lib.hid (show StAt _ _ _ _ _ _ _ _ _ _ _ _ _ ⟨5, 0⟩ from HST.out.hset (fr_one rfl) (HST.out.hlp.set 2 (.int .i64 0)))
  have HP1 := Lib.hid (HPT.out.other ⟨hb, 2, none⟩ (.int .i64 0) (show ¬ _ = hb from HNE.out.1))
  go_wp2_with fail
  refine wp_region_still_tail 9 (by kernel_rfl) (by kernel_rfl) ?_
  simp only [List.take_succ_cons, List.take_zero, List.drop_succ_cons, List.drop_zero]
  iterate 9 still_step
  refine wpStill_nil ?_
  change wpList _ _ _ _ _ w0.drew
  generalize w0.drew = wz at *
  clear g0 g1 g2 g3 g4 g5 g6 h0 h1 h2 b0 b1 b2 b3 b4 f1 f2
  have yg0 := HPT.out.cell 0
  have yg1 := HPT.out.cell 1
  have yg2 := HPT.out.cell 2
  have yg3 := HPT.out.cell 3
  have yg4 := HPT.out.cell 4
  have yg5 := HPT.out.cell 5
  have yg6 := HPT.out.cell 6
  have yh0 := HST.out.hlp.cell 0
  have yh1 := HST.out.hlp.cell 1
  have yh2 := HST.out.hlp.cell 2
  have yb0 := HST.out.box.cell 0
  have yb1 := HST.out.box.cell 1
  have yb2 := HST.out.box.cell 2
  have yb3 := HST.out.box.cell 3
  have yb4 := HST.out.box.cell 4
  have yf1 := HST.out.hlp.free ⟨hb, 1, none⟩ rfl
  have yf2 := HST.out.hlp.free ⟨hb, 2, none⟩ rfl
  simp only [List.getElem?_cons_zero, List.getElem?_cons_succ] at yg0 yg1 yg2 yg3 yg4 yg5 yg6 yh0 yh1 yh2 yb0 yb1 yb2 yb3 yb4
  have zg0 := HP1.out.cell 0
  have zg1 := HP1.out.cell 1
  have zg2 := HP1.out.cell 2
  have zg3 := HP1.out.cell 3
  have zg4 := HP1.out.cell 4
  have zg5 := HP1.out.cell 5
  have zg6 := HP1.out.cell 6
  have zh0 := HS1.out.hlp.cell 0
  have zh1 := HS1.out.hlp.cell 1
  have zh2 := HS1.out.hlp.cell 2
  have zb0 := HS1.out.box.cell 0
  have zb1 := HS1.out.box.cell 1
  have zb2 := HS1.out.box.cell 2
  have zb3 := HS1.out.box.cell 3
  have zb4 := HS1.out.box.cell 4
  have zf1 := HS1.out.hlp.free ⟨hb, 1, none⟩ rfl
  have zf2 := HS1.out.hlp.free ⟨hb, 2, none⟩ rfl
  simp only [List.getElem?_cons_zero, List.getElem?_cons_succ] at zg0 zg1 zg2 zg3 zg4 zg5 zg6 zh0 zh1 zh2 zb0 zb1 zb2 zb3 zb4
  have HNX := Lib.hid (ref13_marks _ hb scx 5 0 ⟨p, B0, k0, B1, k1, B2, k2⟩ HS1.out.hlp (by show 0 ≤ p.V.length; have := OK.out.il; simp only at this; omega) wb HX.out HS1.out.below HS1.out.lh OK.out.fits.v2 (by show p.V.length < 1000000; have := OK.out.sz; omega))
  go_wp2_with fail
  refine HNX.out.mono ?_
  rintro e w9 ⟨rfl, hb9, hf9⟩
  have HS9 := Lib.hid (HS1.out.hset hf9 hb9)
  clear hb9 hf9 HNX
  go_wp2
  (try simp only [Exit.inBlock, Exit.then])
  refine bodyPost_ret (results_tmp3 rfl _ _ _) rfl ?_
  exact HQ'.out _ _ ⟨rfl, HS9.out⟩

set_option maxHeartbeats 4000000 in
set_option maxRecDepth 100000 in
theorem ref13_Step6 (wb w : World) (bw hb : Nat) (d : WD) (x : PX) (fv iv mv sv zv : Value) (us : List Value) (scx : Int) (i : Nat) (hx : x.Reads wb) (h : StAt wb w w bw hb d fv iv mv sv zv us scx ⟨6, i⟩) (ok : StOk d x.p scx ⟨6, i⟩) :
    Calls Tryz.prog 44 #[.pointer (some ⟨bw, 0, none⟩), .pointer (some ⟨hb, 0, none⟩), x.val] w (StepPost wb w bw hb d x.p fv iv mv sv zv us scx ⟨6, i⟩) := by
  obtain ⟨p, B0, k0, B1, k1, B2, k2⟩ := x
  refine calls_hide fun Q HQ => ?_
  have HQ' := Lib.hid HQ
  have HX := Lib.hid hx
  have OK := Lib.hid (show StOk d p scx _ from ok)
  have hbx := (Below.refl w.heap.size w).alloc (Nat.le_refl _) (.cells #[.slice B0 p.V.length k0, .slice B1 p.infos.length k1, .slice B2 p.fin.length k2, .int .i64 p.at_, .int .i64 p.fld, .int .i64 p.old, .int .i64 p.new] 38)
  have HS0 := Lib.hid (h.more hbx)
  have hpb := Blk.new w 38 [.slice B0 p.V.length k0, .slice B1 p.infos.length k1, .slice B2 p.fin.length k2, .int .i64 p.at_, .int .i64 p.fld, .int .i64 p.old, .int .i64 p.new]
  have HPB := Lib.hid hpb
  have hlt0 := h.hlp.lt
  have hlt1 := h.box.lt
  have HNE := Lib.hid (show ¬ w.heap.size = hb ∧ ¬ w.heap.size = bw by constructor <;> omega)
  clear HQ hx h ok hpb hbx hlt0 hlt1
  go_enter Tryz.func44, Tryz.ntmps44
  have g0 := HPB.out.cell 0
  have g1 := HPB.out.cell 1
  have g2 := HPB.out.cell 2
  have g3 := HPB.out.cell 3
  have g4 := HPB.out.cell 4
  have g5 := HPB.out.cell 5
  have g6 := HPB.out.cell 6
  have h0 := HS0.out.hlp.cell 0
  have h1 := HS0.out.hlp.cell 1
  have h2 := HS0.out.hlp.cell 2
  have b0 := HS0.out.box.cell 0
  have b1 := HS0.out.box.cell 1
  have b2 := HS0.out.box.cell 2
  have b3 := HS0.out.box.cell 3
  have b4 := HS0.out.box.cell 4
  have f1 := HS0.out.hlp.free ⟨hb, 1, none⟩ rfl
  have f2 := HS0.out.hlp.free ⟨hb, 2, none⟩ rfl
  simp only [List.getElem?_cons_zero, List.getElem?_cons_succ] at g0 g1 g2 g3 g4 g5 g6 h0 h1 h2 b0 b1 b2 b3 b4
  skip
  have hi : i < p.V.length := OK.out.ii (by first | exact .inl rfl | exact .inr (.inl rfl) | exact .inr (.inr rfl))
  obtain ⟨adv, hAv, hcv0⟩ := int_at HX.out.h0 hi
  have hcv := pw_cell_below HS0.out.below hcv0
  have hrb := OK.out.fits.hV _ (List.getElem_mem hi)
  have HR := Lib.hid (show p.V.getD i 0 = p.V[i] by simp [List.getD_eq_getElem?_getD, List.getElem?_eq_getElem hi])
  simp only at hAv hcv hrb
  generalize p.V[i] = r at *
  subst hAv
  have hr0 : 0 ≤ r := hrb.1
  have hr1 : r < d.fields.length := hrb.2
  have e1 := OK.out.e1
  have e2 := OK.out.e2
  clear hcv0 hrb
  have hrm : r.toNat < d.marks.length := by omega
  obtain ⟨adk, ck, ek, hck, hsetk⟩ := HS0.out.out.atM hrm
  have hr2 : r < d.marks.length := by omega
  subst ek
  clear hsetk e1 e2
  have HEQ : stepH d ⟨6, i⟩ p scx = (2, false, 0, marksS p (i + 1), { d with marks := d.marks.set r.toNat true }) := by
    unfold stepH; rw [if_neg (show ¬ (6 : Int) = 1 by decide)]; rw [if_neg (show ¬ (6 : Int) = 2 by decide)]; rw [if_neg (show ¬ (6 : Int) = 3 by decide)]; rw [if_neg (show ¬ (6 : Int) = 4 by decide)]; rw [if_neg (show ¬ (6 : Int) = 5 by decide)]; rw [if_pos rfl]; rw [HR.out]
  unfold StepPost at HQ'
  rw [HEQ] at HQ'
  clear HEQ
  go_wp2_with fail
  generalize w.alloc (.cells #[.slice (some adv) p.V.length k0, .slice B1 p.infos.length k1, .slice B2 p.fin.length k2, .int .i64 p.at_, .int .i64 p.fld, .int .i64 p.old, .int .i64 p.new] 38) = w0 at *
  have HSy := Lib.hid HS0.out
  have HPy := Lib.hid HPB.out
  have HSw := Lib.hid (HSy.out.more (Below.refl w0.heap.size w0).drew)
  have HPw := Lib.hid (HPy.out.below (Below.refl w0.heap.size w0).drew HPy.out.lt)
  obtain ⟨adx, cx, ex, hcx, hsx⟩ := HSw.out.out.atM hrm
  obtain ⟨rfl, rfl⟩ : adk = adx ∧ ck = cx := by simp at ex; exact ex
  obtain ⟨hfx, hst⟩ := hsx _ HSw.out.out
  have HST := Lib.hid (HSw.out.oset (hst true).1 (hst true).2)
  have HPT := Lib.hid ((hst true).2.blk HPw.out (HSw.out.apart HPw.out))
  clear ex hsx hst
  have HS1 := Lib.hid (show StAt _ _ _ _ _ _ _ _ _ _ _ _ _ ⟨6, i + 1⟩ from HST.out.hset (fr_one rfl) (HST.out.hlp.set 2 (.int .i64 ((i : Int) + 1))))
  have HP1 := Lib.hid (HPT.out.other ⟨hb, 2, none⟩ (.int .i64 ((i : Int) + 1)) (show ¬ _ = hb from HNE.out.1))
  go_wp2_with fail
  refine wp_region_still_tail 13 (by kernel_rfl) (by kernel_rfl) ?_
  simp only [List.take_succ_cons, List.take_zero, List.drop_succ_cons, List.drop_zero]
  iterate 13 still_step
  refine wpStill_nil ?_
  change wpList _ _ _ _ _ w0.drew
  generalize w0.drew = wz at *
  clear g0 g1 g2 g3 g4 g5 g6 h0 h1 h2 b0 b1 b2 b3 b4 f1 f2
  have yg0 := HPT.out.cell 0
  have yg1 := HPT.out.cell 1
  have yg2 := HPT.out.cell 2
  have yg3 := HPT.out.cell 3
  have yg4 := HPT.out.cell 4
  have yg5 := HPT.out.cell 5
  have yg6 := HPT.out.cell 6
  have yh0 := HST.out.hlp.cell 0
  have yh1 := HST.out.hlp.cell 1
  have yh2 := HST.out.hlp.cell 2
  have yb0 := HST.out.box.cell 0
  have yb1 := HST.out.box.cell 1
  have yb2 := HST.out.box.cell 2
  have yb3 := HST.out.box.cell 3
  have yb4 := HST.out.box.cell 4
  have yf1 := HST.out.hlp.free ⟨hb, 1, none⟩ rfl
  have yf2 := HST.out.hlp.free ⟨hb, 2, none⟩ rfl
  simp only [List.getElem?_cons_zero, List.getElem?_cons_succ] at yg0 yg1 yg2 yg3 yg4 yg5 yg6 yh0 yh1 yh2 yb0 yb1 yb2 yb3 yb4
  have zg0 := HP1.out.cell 0
  have zg1 := HP1.out.cell 1
  have zg2 := HP1.out.cell 2
  have zg3 := HP1.out.cell 3
  have zg4 := HP1.out.cell 4
  have zg5 := HP1.out.cell 5
  have zg6 := HP1.out.cell 6
  have zh0 := HS1.out.hlp.cell 0
  have zh1 := HS1.out.hlp.cell 1
  have zh2 := HS1.out.hlp.cell 2
  have zb0 := HS1.out.box.cell 0
  have zb1 := HS1.out.box.cell 1
  have zb2 := HS1.out.box.cell 2
  have zb3 := HS1.out.box.cell 3
  have zb4 := HS1.out.box.cell 4
  have zf1 := HS1.out.hlp.free ⟨hb, 1, none⟩ rfl
  have zf2 := HS1.out.hlp.free ⟨hb, 2, none⟩ rfl
  simp only [List.getElem?_cons_zero, List.getElem?_cons_succ] at zg0 zg1 zg2 zg3 zg4 zg5 zg6 zh0 zh1 zh2 zb0 zb1 zb2 zb3 zb4
  have hi64 : i < 1000000 := by have := OK.out.sz; omega
  have HNX := Lib.hid (ref13_marks _ hb scx 6 (i + 1) ⟨p, (some adv), k0, B1, k1, B2, k2⟩ HS1.out.hlp (by show (i + 1) ≤ p.V.length; omega) wb HX.out HS1.out.below HS1.out.lh OK.out.fits.v2 (by show p.V.length < 1000000; have := OK.out.sz; omega))
  go_wp2_with fail
  refine HNX.out.mono ?_
  rintro e w9 ⟨rfl, hb9, hf9⟩
  have HS9 := Lib.hid (HS1.out.hset hf9 hb9)
  clear hb9 hf9 HNX
  go_wp2
  (try simp only [Exit.inBlock, Exit.then])
  refine bodyPost_ret (results_tmp3 rfl _ _ _) rfl ?_
  exact HQ'.out _ _ ⟨rfl, HS9.out⟩
end Go.Proofs.YtphhdmopfmelbaaGreat
