/- Joined texts: HelpM Plans RecSet HelpB RecOut OutSet HelpD. -/
import Derived.Test.YtphhdmopfmelbaaGreatM3
import Derived.Deep.RegionLaw

/- help by blocks: what one help does to the records in memory; by numbers it is helpH. No walk. -/
namespace Go.Proofs.YtphhdmopfmelbaaGreat
open Go.RowKit Go.Proofs.YtphhdmopfmelbaaGreatW.PrintWords
set_option linter.unusedVariables false
set_option linter.unusedSimpArgs false

/-- The record at a block. -/
def rg (R : Nat → Option RecO) (b : Nat) : RecO := (R b).getD ⟨[], 0, [], none, false⟩
theorem rg_some {R : Nat → Option RecO} {b : Nat} (h : (R b).isSome) : R b = some (rg R b) := by
  obtain ⟨o, ho⟩ := Option.isSome_iff_exists.1 h
  rw [ho]; unfold rg; rw [ho]; rfl
theorem rg_of {R : Nat → Option RecO} {b : Nat} {o : RecO} (h : R b = some o) : rg R b = o := by unfold rg; rw [h]; rfl
theorem upd_same {α : Type} {R : Nat → Option α} {b : Nat} {o : α} (h : R b = some o) : upd R b o = R := by
  funext k; unfold upd; split
  · subst k; exact h.symm
  · rfl
theorem rg_upd (R : Nat → Option RecO) (b k : Nat) (o : RecO) : rg (upd R b o) k = if k = b then o else rg R k := by
  unfold rg upd; split <;> rfl
theorem upd_isSome {α : Type} {R : Nat → Option α} {b k : Nat} (o : α) (h : (R k).isSome) : (upd R b o k).isSome := by
  unfold upd; split
  · rfl
  · exact h
/-- The SCX-record s freezes the records (r, i) one behind the other: did it get through, the records then, the kinds. -/
def frzR (s : Nat) : (Nat → Option RecO) → List (Nat × Option Nat) → Bool × (Nat → Option RecO) × List Int
  | R, [] => (true, R, [])
  | R, (r, i) :: l =>
    if (rg R r).info = i then let x := frzR s (upd R r { rg R r with info := some s }) l; (x.1, x.2.1, 5 :: x.2.2)
    else if (rg R r).info = some s then let x := frzR s R l; (x.1, x.2.1, 5 :: 1 :: x.2.2)
    else (false, R, [5, 1])
/-- The marks. -/
def mrkR : (Nat → Option RecO) → List (Nat × Bool) → (Nat → Option RecO) × List Int
  | R, [] => (R, [])
  | R, (r, f) :: l => if f then let x := mrkR (upd R r { rg R r with mark := true }) l; (x.1, 2 :: x.2) else mrkR R l
/-- The field. -/
def swgR (R : Nat → Option RecO) (r f : Nat) (old new : Option Nat) : Nat → Option RecO := upd R r { rg R r with fields := if (rg R r).fields.getD f none = old then (rg R r).fields.set f new else (rg R r).fields }
/-- One help. -/
def helpR (R : Nat → Option RecO) (X : Nat → Option ScxO) (s : Nat) (o : ScxO) (vs : List Nat) (is : List (Option Nat)) (fs : List Bool) : Bool × List Int × (Nat → Option RecO) × (Nat → Option ScxO) :=
  let x := frzR s R (vs.zip is)
  if x.1 then
    let m := mrkR x.2.1 (vs.zip fs)
    (true, x.2.2 ++ 2 :: (m.2 ++ [5, 2]), swgR m.1 (vs.getD o.at_.toNat 0) o.fld.toNat o.old o.new, upd X s { o with frozen := true, state := 1 })
  else if o.frozen then (true, x.2.2 ++ [1], x.2.1, X)
  else (false, x.2.2 ++ [1, 2], x.2.1, upd X s { o with state := 2 })

/-! ### by numbers -/
/-- The infos of the records rs are those of d. -/
def InfAt (R : Nat → Option RecO) (d : WD) (rs fs xs : List Nat) : Prop := ∀ (i b : Nat), rs[i]? = some b → ∃ o, R b = some o ∧ o.info = ip fs xs i (d.infos.getD i 0)
section
variable {rs fs xs : List Nat} (hr : rs.Nodup) (hx : (fs ++ xs).Nodup) (hl : fs.length = rs.length)
include hr hx hl
theorem frz_sim (scx : Nat) (s : Nat) (hs : xs[scx]? = some s) : ∀ (l : List (Int × Int)) (R : Nat → Option RecO) (d : WD), InfAt R d rs fs xs → d.infos.length = rs.length → (∀ n ∈ d.infos, -1 ≤ n ∧ n < xs.length) → (∀ x ∈ l, (0 ≤ x.1 ∧ x.1 < rs.length) ∧ (-1 ≤ x.2 ∧ x.2 < xs.length)) →
    (frzR s R (l.map fun x => (rs.getD x.1.toNat 0, ip fs xs x.1 x.2))).1 = (frzH scx d l).1 ∧ (frzR s R (l.map fun x => (rs.getD x.1.toNat 0, ip fs xs x.1 x.2))).2.2 = (frzH scx d l).2.2 ∧ (frzH scx d l).2.1.frozen = d.frozen := fun l => by
  induction l with
  | nil => intro R d _ _ _ _; exact ⟨rfl, rfl, rfl⟩
  | cons x l ih =>
    intro R d hI hdl hdr hb
    obtain ⟨n, k⟩ := x
    have hb1 := hb (n, k) (List.mem_cons_self ..)
    simp only at hb1
    have hbl : ∀ x ∈ l, (0 ≤ x.1 ∧ x.1 < rs.length) ∧ (-1 ≤ x.2 ∧ x.2 < xs.length) := fun x hx => hb x (List.mem_cons_of_mem _ hx)
    have hn : n.toNat < rs.length := by omega
    have hg : rs[n.toNat]? = some (rs.getD n.toNat 0) := by simp [List.getD_eq_getElem?_getD, List.getElem?_eq_getElem hn]
    obtain ⟨o, ho, hoi⟩ := hI _ _ hg
    have hrg : rg R (rs.getD n.toNat 0) = o := rg_of ho
    have hin : ((n.toNat : Nat) : Int) = n := by omega
    rw [hin] at hoi
    have hdb : -1 ≤ d.infos.getD n.toNat 0 ∧ d.infos.getD n.toNat 0 < xs.length := hdr _ (getD_mem (by omega) 0)
    have hsx : scx < xs.length := (List.getElem?_eq_some_iff.1 hs).1
    have hips : some s = ip fs xs n (scx : Int) := by unfold ip; rw [if_neg (by omega)]; simpa using hs.symm
    have c1 : (rg R (rs.getD n.toNat 0)).info = ip fs xs n k ↔ d.infos.getD n.toNat 0 = k := by
      rw [hrg, hoi]; exact ip_inj hx hb1.1.1 (by omega) hdb.1 hdb.2 hb1.2.1 hb1.2.2
    have c2 : (rg R (rs.getD n.toNat 0)).info = some s ↔ d.infos.getD n.toNat 0 = (scx : Int) := by
      rw [hrg, hoi, hips]; exact ip_inj hx hb1.1.1 (by omega) hdb.1 hdb.2 (by omega) (by omega)
    simp only [List.map_cons, frzR, frzH]
    by_cases h1 : d.infos.getD n.toNat 0 = k
    · rw [if_pos h1, if_pos (c1.2 h1)]
      have hI2 : InfAt (upd R (rs.getD n.toNat 0) { rg R (rs.getD n.toNat 0) with info := some s }) { d with infos := d.infos.set n.toNat scx } rs fs xs := fun i b hb2 => by
        by_cases e : i = n.toNat
        · subst e
          rw [hg] at hb2
          cases hb2
          refine ⟨_, upd_self _ _ _, ?_⟩
          show some s = ip fs xs (n.toNat : Nat) ((d.infos.set n.toNat scx).getD n.toNat 0)
          rw [getD_set _ _ _ _ _ (by omega), if_pos rfl, hin, hips]
        · obtain ⟨o2, h3, h4⟩ := hI i b hb2
          refine ⟨o2, by rw [upd_ne _ _ (fun e2 => by subst e2; exact e (nodup_get hr hb2 hg))]; exact h3, ?_⟩
          show o2.info = ip fs xs i ((d.infos.set n.toNat scx).getD i 0)
          rw [getD_set _ _ _ _ _ (by omega), if_neg e]; exact h4
      obtain ⟨e1, e2, e3⟩ := ih _ _ hI2 (by simpa using hdl) (fun m hm => by
        rcases List.mem_or_eq_of_mem_set hm with hm | rfl
        · exact hdr m hm
        · omega) hbl
      exact ⟨e1, congrArg (5 :: ·) e2, e3⟩
    · rw [if_neg h1, if_neg (fun e => h1 (c1.1 e))]
      by_cases h2 : d.infos.getD n.toNat 0 = (scx : Int)
      · rw [if_pos h2, if_pos (c2.2 h2)]
        obtain ⟨e1, e2, e3⟩ := ih _ _ hI hdl hdr hbl
        exact ⟨e1, congrArg (fun z => 5 :: 1 :: z) e2, e3⟩
      · rw [if_neg h2, if_neg (fun e => h2 (c2.1 e))]
        exact ⟨rfl, rfl, rfl⟩
end
theorem mrk_sim : ∀ (vs : List Nat) (V : List Int) (fs : List Bool) (R : Nat → Option RecO) (d : WD), vs.length = V.length → (mrkR R (vs.zip fs)).2 = (mrkH d (V.zip fs)).2 := fun vs => by
  induction vs with
  | nil => intro V fs R d h; obtain rfl : V = [] := List.eq_nil_of_length_eq_zero h.symm; rfl
  | cons v vs ih =>
    intro V fs R d h
    cases V with
    | nil => cases h
    | cons n V =>
      cases fs with
      | nil => rfl
      | cons f fs =>
        simp only [List.zip_cons_cons, mrkR, mrkH]
        split
        · exact congrArg (2 :: ·) (ih V fs _ _ (by simpa using h))
        · exact ih V fs _ _ (by simpa using h)
/-- One help's kinds by blocks are those by numbers. -/
theorem help_sim {rs fs xs : List Nat} (hr : rs.Nodup) (hx : (fs ++ xs).Nodup) (hl : fs.length = rs.length) (R : Nat → Option RecO) (X : Nat → Option ScxO) (d : WD) (p : PlanD) (scx : Nat) (s : Nat) (o : ScxO) (hs : xs[scx]? = some s)
    (hI : InfAt R d rs fs xs) (hdl : d.infos.length = rs.length) (hdr : ∀ n ∈ d.infos, -1 ≤ n ∧ n < xs.length) (hV : ∀ n ∈ p.V, 0 ≤ n ∧ n < rs.length) (hN : ∀ n ∈ p.infos, -1 ≤ n ∧ n < xs.length) (hf : o.frozen = d.frozen.getD scx false) :
    (helpR R X s o (p.V.map fun n => rs.getD n.toNat 0) ((p.V.zip p.infos).map fun x => ip fs xs x.1 x.2) p.fin).2.1 = (helpH d p scx).2.1 := by
  have hz : ∀ (V N : List Int), (V.map fun n => rs.getD n.toNat 0).zip ((V.zip N).map fun x => ip fs xs x.1 x.2) = (V.zip N).map fun x => (rs.getD x.1.toNat 0, ip fs xs x.1 x.2) := fun V => by
    induction V with
    | nil => intro N; rfl
    | cons v V ih => intro N; cases N with
      | nil => rfl
      | cons n N => simp only [List.map_cons, List.zip_cons_cons, ih]
  obtain ⟨e1, e2, e3⟩ := frz_sim hr hx hl scx s hs (p.V.zip p.infos) R d hI hdl hdr (fun x hx2 => by
    obtain ⟨h1, h2⟩ := List.of_mem_zip hx2
    exact ⟨hV _ h1, hN _ h2⟩)
  unfold helpR helpH
  simp only [hz, e1, e2, e3, hf, Int.toNat_natCast]
  split
  · simp only
    rw [mrk_sim (p.V.map fun n => rs.getD n.toNat 0) p.V p.fin _ { (frzH scx d (p.V.zip p.infos)).2.1 with frozen := d.frozen.set scx true } (by simp)]
  · split <;> rfl
end Go.Proofs.YtphhdmopfmelbaaGreat

/- help: plans as they lie in memory. No walk. -/
namespace Go.Proofs.YtphhdmopfmelbaaGreat
open Go.RowKit Go.Proofs.YtphhdmopfmelbaaGreatW.PrintWords
set_option linter.unusedVariables false
set_option linter.unusedSimpArgs false

/-- A plan as it lies in memory: with its three slices. -/
structure PX where
  p : PlanD
  A0 : Option Addr
  c0 : Nat
  A1 : Option Addr
  c1 : Nat
  A2 : Option Addr
  c2 : Nat
abbrev PX.cells (x : PX) : List Value := [.slice x.A0 x.p.V.length x.c0, .slice x.A1 x.p.infos.length x.c1, .slice x.A2 x.p.fin.length x.c2, .int .i64 x.p.at_, .int .i64 x.p.fld, .int .i64 x.p.old, .int .i64 x.p.new]
abbrev PX.val (x : PX) : Value := .agg #[.slice x.A0 x.p.V.length x.c0, .slice x.A1 x.p.infos.length x.c1, .slice x.A2 x.p.fin.length x.c2, .int .i64 x.p.at_, .int .i64 x.p.fld, .int .i64 x.p.old, .int .i64 x.p.new]
structure PX.Reads (w : World) (x : PX) : Prop where
  h0 : KInt.C w x.A0 x.p.V.length x.p.V
  k0 : x.p.V.length ≤ x.c0
  h1 : KInt.C w x.A1 x.p.infos.length x.p.infos
  k1 : x.p.infos.length ≤ x.c1
  h2 : Kd.bool.C w x.A2 x.p.fin.length x.p.fin
  k2 : x.p.fin.length ≤ x.c2
theorem PX.Reads.below {w w' : World} {x : PX} (h : x.Reads w) (hb : Below w.heap.size w w') : x.Reads w' :=
  ⟨Kd.C_below h.h0 hb, h.k0, Kd.C_below h.h1 hb, h.k1, Kd.C_below h.h2 hb, h.k2⟩
/-- A slice of plans, as it is read. -/
structure PlansAt (w : World) (A : Option Addr) (l : List PX) : Prop where
  row : 0 < l.length → ∃ b o, A = some ⟨b, o, none⟩ ∧ ∀ (j : Nat) x, l[j]? = some x → ∀ (i : Nat) u, x.cells[i]? = some u → w.cell? ⟨b, o + j * 7 + i, none⟩ = some u
  reads : ∀ x ∈ l, x.Reads w
theorem PlansAt.below {w w' : World} {A : Option Addr} {l : List PX} (h : PlansAt w A l) (hb : Below w.heap.size w w') : PlansAt w' A l := ⟨fun hl => by
  obtain ⟨b, o, e, hc⟩ := h.row hl
  exact ⟨b, o, e, fun j x hx i u hu => pw_cell_below hb (hc j x hx i u hu)⟩, fun x hx => (h.reads x hx).below hb⟩
theorem PlansAt.at_ {w : World} {A : Option Addr} {l : List PX} (h : PlansAt w A l) {j : Nat} (hj : j < l.length) : ∃ b o, A = some ⟨b, o, none⟩ ∧
    w.cell? ⟨b, o + j * 7, none⟩ = some (.slice l[j].A0 l[j].p.V.length l[j].c0) ∧ w.cell? ⟨b, o + j * 7 + 1, none⟩ = some (.slice l[j].A1 l[j].p.infos.length l[j].c1) ∧ w.cell? ⟨b, o + j * 7 + 2, none⟩ = some (.slice l[j].A2 l[j].p.fin.length l[j].c2) ∧
    w.cell? ⟨b, o + j * 7 + 3, none⟩ = some (.int .i64 l[j].p.at_) ∧ w.cell? ⟨b, o + j * 7 + 4, none⟩ = some (.int .i64 l[j].p.fld) ∧ w.cell? ⟨b, o + j * 7 + 5, none⟩ = some (.int .i64 l[j].p.old) ∧ w.cell? ⟨b, o + j * 7 + 6, none⟩ = some (.int .i64 l[j].p.new) := by
  obtain ⟨b, o, e, hc⟩ := h.row (by omega)
  have hk := hc j _ (List.getElem?_eq_getElem hj)
  exact ⟨b, o, e, hk 0 _ rfl, hk 1 _ rfl, hk 2 _ rfl, hk 3 _ rfl, hk 4 _ rfl, hk 5 _ rfl, hk 6 _ rfl⟩
/-- An owned row of plans. -/
theorem own_plans {w : World} {B e n : Nat} {v : Value} {l : List PX} (h : w.ownsRow B e 7 v n (l.flatMap PX.cells)) (hr : ∀ x ∈ l, x.Reads w) : ∃ A c, v = .slice A l.length c ∧ l.length ≤ c ∧ PlansAt w A l := by
  have hfl : ∀ l : List PX, (l.flatMap PX.cells).length = l.length * 7 := fun l => by
    induction l with
    | nil => rfl
    | cons x l ih => simp only [List.flatMap_cons, List.length_append, ih, List.length_cons, List.length_nil]; omega
  have hn : l.length = n := by have := h.1; rw [hfl] at this; omega
  subst hn
  have hget : ∀ (l : List PX) (j : Nat) x, l[j]? = some x → ∀ (i : Nat) u, x.cells[i]? = some u → (l.flatMap PX.cells)[j * 7 + i]? = some u := fun l => by
    induction l with
    | nil => intro j x hx; simp at hx
    | cons y l ih =>
      intro j x hx i u hu
      cases j with
      | zero =>
        simp only [List.getElem?_cons_zero, Option.some.injEq] at hx
        subst hx
        have hi := (List.getElem?_eq_some_iff.1 hu).1
        rw [List.flatMap_cons, Nat.zero_mul, Nat.zero_add, List.getElem?_append_left hi]
        exact hu
      | succ j =>
        simp only [List.getElem?_cons_succ] at hx
        have hl : y.cells.length = 7 := rfl
        rw [List.flatMap_cons, List.getElem?_append_right (by rw [hl]; omega), hl, show (j + 1) * 7 + i - 7 = j * 7 + i by omega]
        exact ih j x hx i u hu
  by_cases hv : v = .slice none 0 0
  · subst hv
    have h0 : l.length = 0 := by
      rcases h.2 with ⟨_, h0⟩ | ⟨g, cap, cur, hv, _⟩
      · exact h0
      · simp at hv
    exact ⟨none, 0, by rw [h0], by omega, fun h => by omega, hr⟩
  · rcases h.2 with ⟨hv', _⟩ | ⟨g, cap, cur, hv', hb, hh, hn, hc, hs, ht⟩
    · exact absurd hv' hv
    · refine ⟨some ⟨g, 0, none⟩, cap, hv', hn, fun hl => ⟨g, 0, rfl, fun j x hx i u hu => ?_⟩, hr⟩
      rw [cell_of_row w g _ cur e (0, 0) hh]
      have h1 := hget l j x hx i u hu
      have h2 := (List.getElem?_eq_some_iff.1 h1).1
      rw [hfl] at h2
      rw [← ht, List.getElem?_take, if_pos h2] at h1
      simpa [Nat.zero_add] using h1
end Go.Proofs.YtphhdmopfmelbaaGreat

/- record: what made stores, with a nil gate. -/
namespace Go.Proofs.YtphhdmopfmelbaaGreat
open Go.RowKit Go.Proofs.YtphhdmopfmelbaaGreatW.PrintWords
set_option linter.unusedVariables false
set_option linter.unusedSimpArgs false

theorem gnil (w : World) : GAtI w 0 none [] := fun t e => by cases e
theorem upd_upd {α : Type} (R : Nat → Option α) (b : Nat) (o o' : α) : upd (upd R b o) b o' = upd R b o' := by
  funext k; unfold upd; split <;> rfl
section
variable (R : Nat → Option RecO) (X : Nat → Option ScxO) (w : World) (h : Repint w R X)
include h
theorem set_state (b : Nat) (o : ScxO) (ho : X b = some o) (n : Int) (n0 : 0 ≤ n) (n1 : n ≤ 1000) :
    Calls Tryz.prog 27 #[.pointer (some ⟨b, 7, none⟩), .nilIface, .int .i64 n] w fun e w' => e = .returned (.tuple #[]) ∧ Fr w w' (fun k => k = b) ∧ Repint w' R (upd X b { o with state := n }) := by
  refine (num_store 0 none [] b 7 145 _ w (gnil w) (Nat.zero_le _) (by simp) (h.scx b o ho) (by decide) (by decide) n n0 n1 (.int .i64 o.state) rfl).mono ?_
  rintro e w1 ⟨rfl, H, hb⟩
  exact ⟨rfl, H.fr0, h.setScx tys_int (gnil w) ho H hb⟩
theorem set_frozen (b : Nat) (o : ScxO) (ho : X b = some o) (f : Bool) :
    Calls Tryz.prog 60 #[.pointer (some ⟨b, 8, none⟩), .nilIface, .bool f] w fun e w' => e = .returned (.tuple #[]) ∧ Fr w w' (fun k => k = b) ∧ Repint w' R (upd X b { o with frozen := f }) := by
  cases f
  · refine (mark_store_false 0 none [] b 8 145 _ w (gnil w) (Nat.zero_le _) (by simp) (h.scx b o ho) (by decide) (by decide) (u32b o.frozen) rfl).mono ?_
    rintro e w1 ⟨rfl, H, hb⟩
    exact ⟨rfl, H.fr0, h.setScx tys_int (gnil w) ho H hb⟩
  · refine (mark_store_true 0 none [] b 8 145 _ w (gnil w) (Nat.zero_le _) (by simp) (h.scx b o ho) (by decide) (by decide) (u32b o.frozen) rfl).mono ?_
    rintro e w1 ⟨rfl, H, hb⟩
    exact ⟨rfl, H.fr0, h.setScx tys_int (gnil w) ho H hb⟩
theorem set_field (b : Nat) (o : RecO) (ho : R b = some o) (i : Nat) (hi : i < o.fields.length) (p : Option Nat) (hp : Ok R p) :
    Calls Tryz.prog 91 #[.pointer (some ⟨o.fb, i, none⟩), .nilIface, pv p] w fun e w' => e = .returned (.tuple #[]) ∧ Fr w w' (fun k => k = o.fb) ∧ Repint w' (upd R b { o with fields := o.fields.set i p }) X := by
  refine (cell_store_Recordint 0 none [] o.fb i 180 _ w (gnil w) (Nat.zero_le _) (by simp) (h.fld b o ho) (by decide) (by decide) p (pv o.fields[i]) (by simp [List.getElem?_eq_getElem hi]) (h.recPtr hp)).mono ?_
  rintro e w1 ⟨rfl, H, hb⟩
  refine ⟨rfl, H.fr0, h.setFields tys_int (gnil w) ho H (by simp) (by rw [List.map_set]; exact hb) (fun z hz => ?_)⟩
  rcases List.mem_or_eq_of_mem_set hz with hz | hz
  · exact h.kf b o ho z hz
  · exact hp z hz.symm
theorem set_info (b : Nat) (o : RecO) (ho : R b = some o) (p : Option Nat) (hp : Ok X p) :
    Calls Tryz.prog 92 #[.pointer (some ⟨b, 2, none⟩), .nilIface, pv p] w fun e w' => e = .returned (.tuple #[]) ∧ Fr w w' (fun k => k = b) ∧ Repint w' (upd R b { o with info := p }) X := by
  refine (cell_store_Scxint 0 none [] b 2 175 _ w (gnil w) (Nat.zero_le _) (by simp) (h.recs b o ho).1 (by decide) (by decide) p _ (h.at_ ho 1) (h.scxPtr hp)).mono ?_
  rintro e w1 ⟨rfl, H, hb⟩
  refine ⟨rfl, H.fr0, h.setRec tys_int (gnil w) ho H rfl rfl rfl ?_ hp⟩
  rw [show 2 = 1 + 1 from rfl, o.set_tail (h.recs b o ho).2] at hb
  exact hb
theorem set_mark (b : Nat) (o : RecO) (ho : R b = some o) (f : Bool) :
    Calls Tryz.prog 60 #[.pointer (some ⟨b, 3, none⟩), .nilIface, .bool f] w fun e w' => e = .returned (.tuple #[]) ∧ Fr w w' (fun k => k = b) ∧ Repint w' (upd R b { o with mark := f }) X := by
  have C : ∀ u, (hb : u = u32b f) → ∀ w', StepI 0 none w w' ([] ++ [2]) (fun k => k = b) → Blk w' b 175 (o.cells.set 3 u) → Fr w w' (fun k => k = b) ∧ Repint w' (upd R b { o with mark := f }) X := fun u hu w' H hb => by
    subst hu
    refine ⟨H.fr0, h.setRec tys_int (gnil w) ho H rfl rfl rfl ?_ (fun x e => h.ki b o ho x e)⟩
    rw [show 3 = 1 + 2 from rfl, o.set_tail (h.recs b o ho).2] at hb
    exact hb
  cases f
  · refine (mark_store_false 0 none [] b 3 175 _ w (gnil w) (Nat.zero_le _) (by simp) (h.recs b o ho).1 (by decide) (by decide) _ (h.at_ ho 2)).mono ?_
    rintro e w1 ⟨rfl, H, hb⟩
    exact ⟨rfl, C _ rfl _ H hb⟩
  · refine (mark_store_true 0 none [] b 3 175 _ w (gnil w) (Nat.zero_le _) (by simp) (h.recs b o ho).1 (by decide) (by decide) _ (h.at_ ho 2)).mono ?_
    rintro e w1 ⟨rfl, H, hb⟩
    exact ⟨rfl, C _ rfl _ H hb⟩
end
end Go.Proofs.YtphhdmopfmelbaaGreat

/- help: build: what it holds while it goes. No walk. -/
namespace Go.Proofs.YtphhdmopfmelbaaGreat
open Go.RowKit Go.Proofs.YtphhdmopfmelbaaGreatW.PrintWords
set_option linter.unusedVariables false
set_option linter.unusedSimpArgs false

abbrev TWD : Nat := 60
/-- What made has while it goes: the world's box, the live world (its lists: rsm, fsm, xsm), what stands in memory. -/
structure BInv (w : World) (bx m : Nat) (v : WV) (d : WD) (wr : World) (R : Nat → Option RecO) (X : Nat → Option ScxO) (rsm fsm xsm rs fs xs : List Nat) (v1 v2 v3 : Value) (F : Nat → List (Option Nat)) (I : Nat → Option Nat) (M : Nat → Bool) (P : Nat → ScxO → Prop) : Prop where
  made : MadeAt THM wr w.heap.size m rsm fsm xsm v1 v2 v3
  stage : Stage wr w.heap.size R X rs fs xs F I M P
  box : Blk wr bx TWD (v.cells d)
  below : Below w.heap.size w wr
  hm : w.heap.size ≤ m
section
variable {w wr w1 : World} {bx m b : Nat} {v : WV} {d : WD} {R R' : Nat → Option RecO} {X X' : Nat → Option ScxO} {rsm fsm xsm rs fs xs rs' fs' xs' : List Nat} {v1 v2 v3 v' : Value} {F F' : Nat → List (Option Nat)} {I I' : Nat → Option Nat} {M M' : Nat → Bool} {P P' : Nat → ScxO → Prop}
/-- New blocks alone: the stage has turned. -/
theorem BInv.grow (h : BInv w bx m v d wr R X rsm fsm xsm rs fs xs v1 v2 v3 F I M P) (hb : Below wr.heap.size wr w1) (hs : Stage w1 w.heap.size R' X' rs' fs' xs' F' I' M' P') : BInv w bx m v d w1 R' X' rsm fsm xsm rs' fs' xs' v1 v2 v3 F' I' M' P' :=
  ⟨h.made.below hb, hs, h.box.below hb h.box.lt, h.below.trans (hb.mono h.below.size), h.hm⟩
theorem BInv.drew (h : BInv w bx m v d wr R X rsm fsm xsm rs fs xs v1 v2 v3 F I M P) : BInv w bx m v d wr.drew R X rsm fsm xsm rs fs xs v1 v2 v3 F I M P := h.grow (Below.refl _ _).drew (h.stage.below (Below.refl _ _).drew)
theorem BInv.pushed (h : BInv w bx m v d wr R X rsm fsm xsm rs fs xs v1 v2 v3 F I M P) {u : Value} {e n : Nat} {us : List Value} (ho : wr.ownsRow w.heap.size e 1 u n us) (he : e = TPR ∨ e = TPX) (hg : wr.grownBy w1 u.ownBlock) (j : Nat) :
    Stage (w1.setCell ⟨m, j, none⟩ v') w.heap.size R X rs fs xs F I M P ∧ Blk (w1.setCell ⟨m, j, none⟩ v') bx TWD (v.cells d) ∧ Below w.heap.size w (w1.setCell ⟨m, j, none⟩ v') := by
  have hf : Fr wr (w1.setCell ⟨m, j, none⟩ v') (Pushed m u) := pushed_fr hg
  have ht := fun k hk => pushed_types h.made.blk ho (k := k) hk
  refine ⟨h.stage.rep' (h.stage.rep.types hf (fun k hk => ?_)), hf.blk h.box (fun hk => ?_), h.below.trans (hf.below h.below.size (fun k hk => ?_))⟩
  · obtain ⟨T, ys, hb, hT⟩ := ht k hk
    refine ⟨T, ys, hb, ?_⟩
    rcases hT with rfl | rfl
    · decide
    · rcases he with rfl | rfl <;> decide
  · obtain ⟨T, ys, hb, hT⟩ := ht _ hk
    have hTW := (hb.inj h.box).1
    rcases hT with rfl | rfl
    · exact absurd hTW (by decide)
    · rcases he with rfl | rfl <;> exact absurd hTW (by decide)
  · rcases hk with rfl | hk
    · exact h.hm
    · exact (World.ownsRow.lt ho k hk.symm).1
theorem BInv.push1 (h : BInv w bx m v d wr R X rsm fsm xsm rs fs xs v1 v2 v3 F I M P) (hg : wr.grownBy w1 v1.ownBlock) (ho : w1.ownsRow w.heap.size TPR 1 v' (rsm.length + 1) ((rsm.map fun b => pv (some b)) ++ [pv (some b)])) :
    BInv w bx m v d (w1.setCell ⟨m, 0, none⟩ v') R X (rsm ++ [b]) fsm xsm rs fs xs v' v2 v3 F I M P :=
  let ⟨a, c, e⟩ := h.pushed h.made.o1 (.inl rfl) hg 0
  ⟨h.made.push1 (by decide) hg ho, a, c, e, h.hm⟩
theorem BInv.push2 (h : BInv w bx m v d wr R X rsm fsm xsm rs fs xs v1 v2 v3 F I M P) (hg : wr.grownBy w1 v2.ownBlock) (ho : w1.ownsRow w.heap.size TPX 1 v' (fsm.length + 1) ((fsm.map fun b => pv (some b)) ++ [pv (some b)]))
    (hat : v'.ownBlock = v2.ownBlock ∨ ∃ b, v'.ownBlock = some b ∧ wr.heap.size ≤ b) : BInv w bx m v d (w1.setCell ⟨m, 1, none⟩ v') R X rsm (fsm ++ [b]) xsm rs fs xs v1 v' v3 F I M P :=
  let ⟨a, c, e⟩ := h.pushed h.made.o2 (.inr rfl) hg 1
  ⟨h.made.push2 (by decide) hg ho hat, a, c, e, h.hm⟩
theorem BInv.push3 (h : BInv w bx m v d wr R X rsm fsm xsm rs fs xs v1 v2 v3 F I M P) (hg : wr.grownBy w1 v3.ownBlock) (ho : w1.ownsRow w.heap.size TPX 1 v' (xsm.length + 1) ((xsm.map fun b => pv (some b)) ++ [pv (some b)]))
    (hat : v'.ownBlock = v3.ownBlock ∨ ∃ b, v'.ownBlock = some b ∧ wr.heap.size ≤ b) : BInv w bx m v d (w1.setCell ⟨m, 2, none⟩ v') R X rsm fsm (xsm ++ [b]) rs fs xs v1 v2 v' F I M P :=
  let ⟨a, c, e⟩ := h.pushed h.made.o3 (.inr rfl) hg 2
  ⟨h.made.push3 (by decide) hg ho hat, a, c, e, h.hm⟩
theorem BInv.at0 (h : BInv w bx m v d wr R X rsm fsm xsm rs fs xs v1 v2 v3 F I M P) : wr.cell? ⟨m, 0, none⟩ = some v1 := by rw [h.made.blk.cell]; rfl
theorem BInv.at1 (h : BInv w bx m v d wr R X rsm fsm xsm rs fs xs v1 v2 v3 F I M P) : wr.cell? ⟨m, 1, none⟩ = some v2 := by rw [h.made.blk.cell]; rfl
theorem BInv.at2 (h : BInv w bx m v d wr R X rsm fsm xsm rs fs xs v1 v2 v3 F I M P) : wr.cell? ⟨m, 2, none⟩ = some v3 := by rw [h.made.blk.cell]; rfl
end
/-- Behind the append the struct's cells are as they were. -/
theorem after_append {wr w1 : World} {m j e n B TM : Nat} {u x v' : Value} {us ms : List Value} (hm : Blk wr m TM ms) (ho : wr.ownsRow B e 1 u n us) (hne : TM ≠ e) (hg : wr.grownBy w1 u.ownBlock) (hx : ms[j]? = some x) (n' : Nat) {us' : List Value} (ho' : w1.ownsRow B e 1 v' n' us') :
    w1.cell? ⟨m, j, none⟩ = some x ∧ w1.frozen? ⟨m, j, none⟩ = false ∧ ∃ A c, v' = .slice A n' c := by
  have hm1 : Blk w1 m TM ms := (Fr.of_grown hg).blk hm (fun e2 => by
    obtain ⟨c, hc⟩ := owns_typed ho m e2.symm
    exact hne (hm.inj hc).1)
  obtain ⟨A, c, hv, _⟩ := owns_slice ho'
  exact ⟨by rw [hm1.cell]; exact hx, hm1.free _ rfl, A, c, hv⟩
theorem cell_alloc_drew {w : World} {a : Addr} {v : Value} (o : Obj) (h : w.cell? a = some v) : (w.alloc o).drew.cell? a = some v := by
  show (w.alloc o).cell? a = some v
  rw [World.cell?_alloc_some _ _ _ (by rw [h]; rfl)]; exact h
/-- After j records. -/
def BI1 (w : World) (bx m : Nat) (v : WV) (d : WD) (j : Nat) (wr : World) : Prop :=
  ∃ R X rs fs v1 v2, rs.length = j ∧ BInv w bx m v d wr R X rs fs [] rs fs [] v1 v2 (.slice none 0 0) (fun i => List.replicate (d.fields.getD i []).length none) (fun i => fs[i]?) (fun _ => false) (fun _ _ => True)

theorem BI1.start (w : World) (v : WV) (d : WD) : BI1 w w.heap.size (w.heap.size + 1) v d 0 ((w.alloc (.cells (v.cells d).toArray TWD)).alloc (.cells #[.slice none 0 0, .slice none 0 0, .slice none 0 0] THM)) := by
  refine ⟨fun _ => none, fun _ => none, [], [], .slice none 0 0, .slice none 0 0, rfl, ⟨?_, World.ownsRow_nil _ _ _ _, World.ownsRow_nil _ _ _ _, World.ownsRow_nil _ _ _ _, (fun k hk => by cases hk)⟩, ⟨Rep.empty _ _ _ _ _, by simp, by simp, rfl, (fun i b hb => by simp at hb), (fun i b hb => by simp at hb), (fun b hb => by simp at hb), (fun b hb => by simp at hb)⟩, ?_, ?_, ?_⟩
  · have := Blk.new (w.alloc (.cells (v.cells d).toArray TWD)) THM [.slice none 0 0, .slice none 0 0, .slice none 0 0]
    simpa using this
  · exact (Blk.new w TWD (v.cells d)).alloc _
  · exact ((Below.refl w.heap.size w).alloc (Nat.le_refl _) _).alloc (by simp) _
  · omega

/-- Fields, infos, marks while the third loop goes: j records done, of record j k fields. -/
def FF (rs : List Nat) (d : WD) (j k i : Nat) : List (Option Nat) := if i < j then (d.fields.getD i []).map (rp rs) else if i = j then ((d.fields.getD i []).take k).map (rp rs) ++ List.replicate ((d.fields.getD i []).length - k) none else List.replicate (d.fields.getD i []).length none
def II (fs xs : List Nat) (d : WD) (j i : Nat) : Option Nat := if i < j then ip fs xs i (d.infos.getD i 0) else fs[i]?
def MM (d : WD) (j i : Nat) : Bool := if i < j then d.marks.getD i false else false
theorem FF_zero (rs : List Nat) (d : WD) (i : Nat) : List.replicate (d.fields.getD i []).length none = FF rs d 0 0 i := by
  unfold FF; simp
theorem FF_next (rs : List Nat) (d : WD) (j i : Nat) : FF rs d j (d.fields.getD j []).length i = FF rs d (j + 1) 0 i := by
  unfold FF
  rcases Nat.lt_trichotomy i j with h | h | h
  · simp [h, show i < j + 1 by omega]
  · subst h; simp
  · simp [show ¬ i < j by omega, show ¬ i = j by omega, show ¬ i < j + 1 by omega]
theorem II_next (fs xs : List Nat) (d : WD) (j i : Nat) : (if i = j then ip fs xs j (d.infos.getD j 0) else II fs xs d j i) = II fs xs d (j + 1) i := by
  unfold II
  rcases Nat.lt_trichotomy i j with h | h | h
  · simp [h, show ¬ i = j by omega, show i < j + 1 by omega]
  · subst h; simp
  · simp [show ¬ i < j by omega, show ¬ i = j by omega, show ¬ i < j + 1 by omega]
theorem MM_next (d : WD) (j i : Nat) : (if i = j then d.marks.getD j false else MM d j i) = MM d (j + 1) i := by
  unfold MM
  rcases Nat.lt_trichotomy i j with h | h | h
  · simp [h, show ¬ i = j by omega, show i < j + 1 by omega]
  · subst h; simp
  · simp [show ¬ i < j by omega, show ¬ i = j by omega, show ¬ i < j + 1 by omega]
theorem FF_len (rs : List Nat) (d : WD) (j k : Nat) (hk : k ≤ (d.fields.getD j []).length) : (FF rs d j k j).length = (d.fields.getD j []).length := by
  unfold FF; simp only [Nat.lt_irrefl, if_false, if_true, List.length_append, List.length_map, List.length_take, List.length_replicate]; omega
theorem FF_step (rs : List Nat) (d : WD) (j k i : Nat) (hk : k < (d.fields.getD j []).length) : (if i = j then (FF rs d j k j).set k (rp rs ((d.fields.getD j [])[k])) else FF rs d j k i) = FF rs d j (k + 1) i := by
  unfold FF
  rcases Nat.lt_trichotomy i j with h | h | h
  · simp [h, show ¬ i = j by omega]
  · subst h
    simp only [Nat.lt_irrefl, if_false, if_true]
    generalize d.fields.getD i [] = row at *
    rw [List.set_append_right _ _ (by simp; omega)]
    simp only [List.length_map, List.length_take, Nat.min_eq_left (Nat.le_of_lt hk), Nat.sub_self]
    rw [show row.length - k = (row.length - (k + 1)) + 1 by omega, List.replicate_succ, List.set_cons_zero, List.take_add_one, List.getElem?_eq_getElem hk, List.map_append, List.append_assoc]
    rfl
  · simp [show ¬ i < j by omega, show ¬ i = j by omega]
section
variable {w wr w1 : World} {bx m b : Nat} {v : WV} {d : WD} {R R' : Nat → Option RecO} {X X' : Nat → Option ScxO} {rs fs xs : List Nat} {v1 v2 v3 : Value} {F F' : Nat → List (Option Nat)} {I I' : Nat → Option Nat} {M M' : Nat → Bool} {P P' : Nat → ScxO → Prop}
theorem BInv.cong (h : BInv w bx m v d wr R X rs fs xs rs fs xs v1 v2 v3 F I M P) (h1 : ∀ i, F i = F' i) (h2 : ∀ i, I i = I' i) (h3 : ∀ i, M i = M' i) : BInv w bx m v d wr R X rs fs xs rs fs xs v1 v2 v3 F' I' M' P :=
  ⟨h.made, h.stage.cong (fun i _ => h1 i) (fun i _ => h2 i) (fun i _ => h3 i) (fun _ _ _ h => h), h.box, h.below, h.hm⟩
/-- Record i has turned. -/
theorem BInv.turn (h : BInv w bx m v d wr R X rs fs xs rs fs xs v1 v2 v3 F I M P) {i fb : Nat} (hi : rs[i]? = some b) (ho : R b = some ⟨[.int .i64 (i : Int)], fb, F i, I i, M i⟩) {fl : List (Option Nat)} {inf : Option Nat} {mk : Bool} {c : Nat} (hc : c = b ∨ c = fb) (hf : Fr wr w1 (fun k => k = c))
    (hrep : Repint w1 (upd R b ⟨[.int .i64 (i : Int)], fb, fl, inf, mk⟩) X) :
    BInv w bx m v d w1 (upd R b ⟨[.int .i64 (i : Int)], fb, fl, inf, mk⟩) X rs fs xs rs fs xs v1 v2 v3 (fun k => if k = i then fl else F k) (fun k => if k = i then inf else I k) (fun k => if k = i then mk else M k) P := by
  have hT : w.heap.size ≤ c ∧ ∃ T ys, Blk wr c T ys ∧ T ≠ THM ∧ T ≠ TPR ∧ T ≠ TPX ∧ T ≠ TWD := by
    rcases hc with rfl | rfl
    · exact ⟨h.stage.lo _ (by simp [List.mem_of_getElem? hi]), _, _, (h.stage.rep.recs _ _ ho).1, by decide, by decide, by decide, by decide⟩
    · obtain ⟨fb', h1, h2⟩ := h.stage.r i b hi
      rw [ho] at h1
      have : c = fb' := by simpa using congrArg RecO.fb (Option.some.inj h1)
      subst this
      exact ⟨h2, _, _, h.stage.rep.fld _ _ ho, by decide, by decide, by decide, by decide⟩
  obtain ⟨hge, T, ys, hb, h1, h2, h3, h4⟩ := hT
  exact ⟨h.made.types hf (fun k hk => by subst hk; exact ⟨T, ys, hb, h1, h2, h3⟩), h.stage.setRec hi ho hrep, hf.blk h.box (fun e => by subst e; exact h4 (hb.inj h.box).1), h.below.trans (hf.below h.below.size (fun k hk => hk ▸ hge)), h.hm⟩
end

/-! ### the plans -/
abbrev TPB : Nat := 4
/-- What an SCX-record holds of its plan. -/
structure PlanMem (w : World) (B : Nat) (s : ScxO) (rs : List Nat) (p : PlanD) (inf : List (Option Nat)) : Prop where
  ov : w.ownsRow B TPR 1 s.sv p.V.length (p.V.map fun n => pv rs[n.toNat]?)
  oi : w.ownsRow B TPX 1 s.si p.V.length (inf.map pv)
  ob : w.ownsRow B TPB 1 s.sf p.V.length (p.fin.map Value.bool)
  e1 : s.at_ = p.at_
  e2 : s.fld = p.fld
  e3 : s.old = rp rs p.old
  e4 : s.new = rp rs p.new
/-- The plans of all SCX-records so far; their rows of infos lie apart from one another and from the made world's own. -/
structure PlansIn (w : World) (B : Nat) (X : Nat → Option ScxO) (rs xs : List Nat) (ps : List PlanD) (J : Nat → List (Option Nat)) (v2 v3 : Value) : Prop where
  at_ : ∀ (i b : Nat) p, xs[i]? = some b → ps[i]? = some p → ∃ s, X b = some s ∧ PlanMem w B s rs p (J i)
  ap : ∀ (i b : Nat) s k, xs[i]? = some b → X b = some s → s.si.ownBlock = some k → v2.ownBlock ≠ some k ∧ v3.ownBlock ≠ some k
  ap2 : ∀ (i j b c : Nat) s t k, i ≠ j → xs[i]? = some b → xs[j]? = some c → X b = some s → X c = some t → s.si.ownBlock = some k → t.si.ownBlock ≠ some k
section
variable {w w' : World} {B m b : Nat} {X : Nat → Option ScxO} {s : ScxO} {rs fs xs : List Nat} {p : PlanD} {ps : List PlanD} {J J' : Nat → List (Option Nat)} {inf : List (Option Nat)} {v1 v2 v3 v' : Value}
theorem PlanMem.fr (h : PlanMem w B s rs p inf) {S : Nat → Prop} (hf : Fr w w' S) (h1 : ∀ k, s.sv.ownBlock = some k ∨ s.si.ownBlock = some k ∨ s.sf.ownBlock = some k → ¬ S k) : PlanMem w' B s rs p inf :=
  ⟨owns_fr h.ov hf (fun k hk => h1 k (.inl hk)), owns_fr h.oi hf (fun k hk => h1 k (.inr (.inl hk))), owns_fr h.ob hf (fun k hk => h1 k (.inr (.inr hk))), h.e1, h.e2, h.e3, h.e4⟩
theorem PlanMem.types (h : PlanMem w B s rs p inf) {S : Nat → Prop} (hf : Fr w w' S) (hS : ∀ k, S k → ∃ T ys, Blk w k T ys ∧ T ≠ TPR ∧ T ≠ TPX ∧ T ≠ TPB) : PlanMem w' B s rs p inf :=
  h.fr hf (fun k hk hs => by
    obtain ⟨T, ys, hb, h1, h2, h3⟩ := hS k hs
    rcases hk with hk | hk | hk
    · obtain ⟨c, hc⟩ := owns_typed h.ov k hk; exact h1 (hb.inj hc).1
    · obtain ⟨c, hc⟩ := owns_typed h.oi k hk; exact h2 (hb.inj hc).1
    · obtain ⟨c, hc⟩ := owns_typed h.ob k hk; exact h3 (hb.inj hc).1)
theorem PlanMem.cong {s' : ScxO} (h : PlanMem w B s rs p inf) (h1 : s'.sv = s.sv) (h2 : s'.si = s.si) (h3 : s'.sf = s.sf) (h4 : s'.at_ = s.at_) (h5 : s'.fld = s.fld) (h6 : s'.old = s.old) (h7 : s'.new = s.new) : PlanMem w B s' rs p inf :=
  ⟨h1 ▸ h.ov, h2 ▸ h.oi, h3 ▸ h.ob, h4 ▸ h.e1, h5 ▸ h.e2, h6 ▸ h.e3, h7 ▸ h.e4⟩
theorem PlansIn.nil (w : World) (B : Nat) (X : Nat → Option ScxO) (rs : List Nat) (ps : List PlanD) (J : Nat → List (Option Nat)) (v2 v3 : Value) : PlansIn w B X rs [] ps J v2 v3 :=
  ⟨fun i b p h => by simp at h, fun i b s k h => by simp at h, fun i j b c s t k _ h => by simp at h⟩
theorem PlansIn.types (h : PlansIn w B X rs xs ps J v2 v3) {S : Nat → Prop} (hf : Fr w w' S) (hS : ∀ k, S k → ∃ T ys, Blk w k T ys ∧ T ≠ TPR ∧ T ≠ TPX ∧ T ≠ TPB) : PlansIn w' B X rs xs ps J v2 v3 :=
  ⟨fun i b p h1 h2 => by obtain ⟨s, hs, hp⟩ := h.at_ i b p h1 h2; exact ⟨s, hs, hp.types hf hS⟩, h.ap, h.ap2⟩
theorem PlansIn.below (h : PlansIn w B X rs xs ps J v2 v3) (hb : Below w.heap.size w w') : PlansIn w' B X rs xs ps J v2 v3 := h.types (S := fun _ => False) (Fr.of_below0 hb) (fun _ hk => hk.elim)
theorem PlansIn.congJ (h : PlansIn w B X rs xs ps J v2 v3) (hj : ∀ i, i < xs.length → J i = J' i) : PlansIn w B X rs xs ps J' v2 v3 :=
  ⟨fun i b p h1 h2 => by rw [← hj i (List.getElem?_eq_some_iff.1 h1).1]; exact h.at_ i b p h1 h2, h.ap, h.ap2⟩
/-- An SCX-record has turned, but for what never changes. -/
theorem PlansIn.turnX (h : PlansIn w B X rs xs ps J v2 v3) {c : Nat} {q q' : ScxO} (hc : X c = some q) (h1 : q'.sv = q.sv) (h2 : q'.si = q.si) (h3 : q'.sf = q.sf) (h4 : q'.at_ = q.at_) (h5 : q'.fld = q.fld) (h6 : q'.old = q.old) (h7 : q'.new = q.new) :
    PlansIn w B (upd X c q') rs xs ps J v2 v3 := by
  have key : ∀ b s, upd X c q' b = some s → ∃ t, X b = some t ∧ s.si = t.si := fun b s hs => by
    rcases upd_cases hs with ⟨rfl, rfl⟩ | ⟨hne, hb⟩
    · exact ⟨q, hc, h2⟩
    · exact ⟨s, hb, rfl⟩
  refine ⟨fun i b p hi hp => ?_, fun i b s k hi hs hk => ?_, fun i j b c' s t k hij hi hj hs ht hk => ?_⟩
  · obtain ⟨s, hs, hm⟩ := h.at_ i b p hi hp
    by_cases e : b = c
    · subst e
      rw [hc] at hs
      cases hs
      exact ⟨q', upd_self _ _ _, hm.cong h1 h2 h3 h4 h5 h6 h7⟩
    · exact ⟨s, by rw [upd_ne _ _ e]; exact hs, hm⟩
  · obtain ⟨t, ht, e⟩ := key b s hs
    exact h.ap i b t k hi ht (e ▸ hk)
  · obtain ⟨s', hs', e⟩ := key b s hs
    obtain ⟨t', ht', e'⟩ := key c' t ht
    rw [e']
    exact h.ap2 i j b c' s' t' k hij hi hj hs' ht' (e ▸ hk)
/-- A further one. -/
theorem PlansIn.push (h : PlansIn w B X rs xs ps J v2 v3) (hb : Below w.heap.size w w') (hX : ∀ c s, X c = some s → c < w.heap.size) (hbn : w.heap.size ≤ b) (hnx : b ∉ xs) {p : PlanD} (hps : ps[xs.length]? = some p) (hm : PlanMem w' B s rs p (J xs.length))
    (hold : ∀ k, s.si.ownBlock = some k → w.heap.size ≤ k) (hlt : ∀ (i c : Nat) t k, xs[i]? = some c → X c = some t → t.si.ownBlock = some k → k < w.heap.size) (h2 : ∀ k, v2.ownBlock = some k → k < w.heap.size) (h3 : ∀ k, v3.ownBlock = some k → k < w.heap.size) :
    PlansIn w' B (upd X b s) rs (xs ++ [b]) ps J v2 v3 := by
  have hne : ∀ c t, X c = some t → c ≠ b := fun c t hc e => by have := hX c t hc; omega
  have key : ∀ (i c : Nat), (xs ++ [b])[i]? = some c → (xs[i]? = some c) ∨ (i = xs.length ∧ b = c) := fun i c hc => get_append_one hc
  refine ⟨fun i c q hi hq => ?_, fun i c t k hi ht hk => ?_, fun i j c e t u k hij hi hj ht hu hk => ?_⟩
  · rcases key i c hi with hi | ⟨rfl, rfl⟩
    · obtain ⟨t, ht, hm'⟩ := h.at_ i c q hi hq
      exact ⟨t, by rw [upd_ne _ _ (hne c t ht)]; exact ht, hm'.types (S := fun _ => False) (Fr.of_below0 hb) (fun _ hk => hk.elim)⟩
    · rw [hps] at hq; cases hq
      exact ⟨s, upd_self _ _ _, hm⟩
  · rcases upd_cases ht with ⟨rfl, rfl⟩ | ⟨hnb, ht⟩
    · have := hold k hk
      exact ⟨fun e => by have := h2 k e; omega, fun e => by have := h3 k e; omega⟩
    · rcases key i c hi with hi | ⟨_, rfl⟩
      · exact h.ap i c t k hi ht hk
      · exact absurd rfl hnb
  · rcases key i c hi with hi' | ⟨ei, ec⟩
    · have hcb : c ≠ b := fun e2 => hnx (e2 ▸ List.mem_of_getElem? hi')
      have ht' : X c = some t := by rw [← ht, upd_ne _ _ hcb]
      rcases key j e hj with hj' | ⟨ej, ee⟩
      · have heb : e ≠ b := fun e2 => hnx (e2 ▸ List.mem_of_getElem? hj')
        have hu' : X e = some u := by rw [← hu, upd_ne _ _ heb]
        exact h.ap2 i j c e t u k hij hi' hj' ht' hu' hk
      · intro e2
        have hus : u = s := by rw [← ee, upd_self] at hu; exact (Option.some.inj hu).symm
        have := hold k (hus ▸ e2)
        have := hlt i c t k hi' ht' hk
        omega
    · rcases key j e hj with hj' | ⟨ej, ee⟩
      · have heb : e ≠ b := fun e2 => hnx (e2 ▸ List.mem_of_getElem? hj')
        have hu' : X e = some u := by rw [← hu, upd_ne _ _ heb]
        intro e2
        have hts : t = s := by rw [← ec, upd_self] at ht; exact (Option.some.inj ht).symm
        have := hold k (hts ▸ hk)
        have := hlt j e u k hj' hu' e2
        omega
      · exact absurd (ei.trans ej.symm) hij
end
end Go.Proofs.YtphhdmopfmelbaaGreat

/- record: a world on its way out: what world() has made. No walk. -/
namespace Go.Proofs.YtphhdmopfmelbaaGreat
open Go.RowKit Go.Proofs.YtphhdmopfmelbaaGreatW.PrintWords
set_option linter.unusedVariables false
set_option linter.unusedSimpArgs false

abbrev TRI : Nat := 23
abbrev TII : Nat := 3
abbrev TBB : Nat := 4
/-- A row of numbers in a block of its own, no room to spare. -/
abbrev rowv (b : Nat) (r : List Int) : Value := .slice (some ⟨b, 0, none⟩) r.length r.length
/-- A world as memory of its own: its five slices; its rows of fields. -/
structure OutW (B : Nat) (d : WD) (fv iv mv sv zv : Value) (us : List Value) (w : World) : Prop where
  f : w.ownsRow B TRI 1 fv d.fields.length us
  inn : ∀ (i : Nat) (u : Value) (r : List Int), us[i]? = some u → d.fields[i]? = some r → w.ownsRow B TII 1 u r.length (r.map (Value.int .i64))
  dd : ∀ (i j : Nat) (u u' : Value), i ≠ j → us[i]? = some u → us[j]? = some u' → ∀ k, u.ownBlock = some k → u'.ownBlock ≠ some k
  i : w.ownsRow B TII 1 iv d.infos.length (d.infos.map (Value.int .i64))
  m : w.ownsRow B TBB 1 mv d.marks.length (d.marks.map Value.bool)
  s : w.ownsRow B TII 1 sv d.states.length (d.states.map (Value.int .i64))
  z : w.ownsRow B TBB 1 zv d.frozen.length (d.frozen.map Value.bool)
  dib : ∀ k, iv.ownBlock = some k → ∀ u ∈ us, u.ownBlock ≠ some k
  dsb : ∀ k, sv.ownBlock = some k → ∀ u ∈ us, u.ownBlock ≠ some k
  dis : ∀ k, iv.ownBlock = some k → sv.ownBlock ≠ some k
  dmz : ∀ k, mv.ownBlock = some k → zv.ownBlock ≠ some k
/-- The blocks of a world that goes out. -/
def OutFoot (fv iv mv sv zv : Value) (us : List Value) (k : Nat) : Prop := fv.ownBlock = some k ∨ iv.ownBlock = some k ∨ mv.ownBlock = some k ∨ sv.ownBlock = some k ∨ zv.ownBlock = some k ∨ ∃ u ∈ us, u.ownBlock = some k
section
variable {B : Nat} {d : WD} {fv iv mv sv zv v' : Value} {us : List Value} {w w1 w' : World}
theorem OutW.lb (h : OutW B d fv iv mv sv zv us w) : us.length = d.fields.length := by have := h.f.1; omega
theorem OutW.inn_own (h : OutW B d fv iv mv sv zv us w) {u : Value} (hu : u ∈ us) : ∃ r : List Int, w.ownsRow B TII 1 u r.length (r.map (Value.int .i64)) := by
  obtain ⟨i, hi⟩ := List.getElem?_of_mem hu
  have hl := (List.getElem?_eq_some_iff.1 hi).1
  exact ⟨_, h.inn i u _ hi (List.getElem?_eq_getElem (by rw [← h.lb]; exact hl))⟩
/-- What turns is none of its blocks. -/
theorem OutW.fr (h : OutW B d fv iv mv sv zv us w) {S : Nat → Prop} (hf : Fr w w' S) (hS : ∀ k, OutFoot fv iv mv sv zv us k → ¬ S k) : OutW B d fv iv mv sv zv us w' :=
  ⟨owns_fr h.f hf (fun k hk => hS k (.inl hk)), fun i u r h1 h2 => owns_fr (h.inn i u r h1 h2) hf (fun k hk => hS k (.inr (.inr (.inr (.inr (.inr ⟨u, List.mem_of_getElem? h1, hk⟩)))))), h.dd,
    owns_fr h.i hf (fun k hk => hS k (.inr (.inl hk))), owns_fr h.m hf (fun k hk => hS k (.inr (.inr (.inl hk)))), owns_fr h.s hf (fun k hk => hS k (.inr (.inr (.inr (.inl hk))))), owns_fr h.z hf (fun k hk => hS k (.inr (.inr (.inr (.inr (.inl hk)))))), h.dib, h.dsb, h.dis, h.dmz⟩
theorem OutW.foot (h : OutW B d fv iv mv sv zv us w) {k : Nat} (hk : OutFoot fv iv mv sv zv us k) : B ≤ k ∧ k < w.heap.size ∧ ∃ T ys, Blk w k T ys ∧ (T = TRI ∨ T = TII ∨ T = TBB) := by
  have key : ∀ {v e n us}, w.ownsRow B e 1 v n us → v.ownBlock = some k → B ≤ k ∧ k < w.heap.size ∧ ∃ ys, Blk w k e ys := fun ho hk => by
    obtain ⟨c, hc⟩ := owns_typed ho k hk
    exact ⟨(World.ownsRow.lt ho k hk).1, (World.ownsRow.lt ho k hk).2, c, hc⟩
  rcases hk with hk | hk | hk | hk | hk | ⟨u, hu, hk⟩
  · obtain ⟨a, b, c, e⟩ := key h.f hk; exact ⟨a, b, _, c, e, .inl rfl⟩
  · obtain ⟨a, b, c, e⟩ := key h.i hk; exact ⟨a, b, _, c, e, .inr (.inl rfl)⟩
  · obtain ⟨a, b, c, e⟩ := key h.m hk; exact ⟨a, b, _, c, e, .inr (.inr rfl)⟩
  · obtain ⟨a, b, c, e⟩ := key h.s hk; exact ⟨a, b, _, c, e, .inr (.inl rfl)⟩
  · obtain ⟨a, b, c, e⟩ := key h.z hk; exact ⟨a, b, _, c, e, .inr (.inr rfl)⟩
  · obtain ⟨r, hr⟩ := h.inn_own hu
    obtain ⟨a, b, c, e⟩ := key hr hk; exact ⟨a, b, _, c, e, .inr (.inl rfl)⟩
theorem OutW.below (h : OutW B d fv iv mv sv zv us w) (hb : Below w.heap.size w w') : OutW B d fv iv mv sv zv us w' := h.fr (S := fun _ => False) (Fr.of_below0 hb) (fun _ _ => id)
/-- A block of another type has turned. -/
theorem OutW.other (h : OutW B d fv iv mv sv zv us w) {S : Nat → Prop} (hf : Fr w w' S) (hS : ∀ k, S k → ∃ T ys, Blk w k T ys ∧ T ≠ TRI ∧ T ≠ TII ∧ T ≠ TBB) : OutW B d fv iv mv sv zv us w' :=
  h.fr hf (fun k hk hs => by
    obtain ⟨_, _, T, ys, hb, hT⟩ := h.foot hk
    obtain ⟨T', ys', hb', h1, h2, h3⟩ := hS k hs
    have := (hb.inj hb').1
    rcases hT with rfl | rfl | rfl <;> simp_all)
theorem OutW.empty (B : Nat) (w : World) : OutW B ⟨[], [], [], [], []⟩ (.slice none 0 0) (.slice none 0 0) (.slice none 0 0) (.slice none 0 0) (.slice none 0 0) [] w :=
  ⟨World.ownsRow_nil _ _ _ _, fun i u r h => by simp at h, fun i j u u' _ h => by simp at h, World.ownsRow_nil _ _ _ _, World.ownsRow_nil _ _ _ _, World.ownsRow_nil _ _ _ _, World.ownsRow_nil _ _ _ _,
    fun k h => by simp [Value.ownBlock] at h, fun k h => by simp [Value.ownBlock] at h, fun k h => by simp [Value.ownBlock] at h, fun k h => by simp [Value.ownBlock] at h⟩
theorem ne_typed {w : World} {B B' e e' n n' : Nat} {v u : Value} {us ys : List Value} (h : w.ownsRow B e 1 v n us) (h' : w.ownsRow B' e' 1 u n' ys) (hne : e ≠ e') (k : Nat) (hk : v.ownBlock = some k) : ¬ some k = u.ownBlock := fun e2 => by
  obtain ⟨c, hc⟩ := owns_typed h k hk
  obtain ⟨c', hc'⟩ := owns_typed h' k e2.symm
  exact hne ((show Blk w k e c from hc).inj hc').1
/-- A row of fields more. -/
theorem OutW.pushF (h : OutW B d fv iv mv sv zv us w) (hg : w.grownBy w1 fv.ownBlock) {u : Value} {r : List Int} (hu : w.ownsRow B TII 1 u r.length (r.map (Value.int .i64))) (hn : ∀ k, u.ownBlock = some k → ¬ OutFoot fv iv mv sv zv us k)
    (ho : w1.ownsRow B TRI 1 v' (d.fields.length + 1) (us ++ [u])) : OutW B { d with fields := d.fields ++ [r] } v' iv mv sv zv (us ++ [u]) w1 := by
  have hf := Fr.of_grown hg
  refine ⟨by simpa using ho, fun i c q h1 h2 => ?_, fun i j c c' hij h1 h2 k hk hk' => ?_, owns_fr h.i hf (fun k hk => ne_typed h.i h.f (by decide) k hk), owns_fr h.m hf (fun k hk => ne_typed h.m h.f (by decide) k hk),
    owns_fr h.s hf (fun k hk => ne_typed h.s h.f (by decide) k hk), owns_fr h.z hf (fun k hk => ne_typed h.z h.f (by decide) k hk), fun k hk x hx hx' => ?_, fun k hk x hx hx' => ?_, h.dis, h.dmz⟩
  · rcases get_append_one h1 with h1 | ⟨rfl, rfl⟩
    · have hl := (List.getElem?_eq_some_iff.1 h1).1
      rw [List.getElem?_append_left (by rw [← h.lb]; exact hl)] at h2
      have hc := h.inn i c q h1 h2
      exact owns_fr hc hf (fun k hk => ne_typed hc h.f (by decide) k hk)
    · rw [List.getElem?_append_right (by rw [h.lb]; exact Nat.le_refl _), h.lb, Nat.sub_self] at h2
      simp at h2
      subst h2
      exact owns_fr hu hf (fun k hk => ne_typed hu h.f (by decide) k hk)
  · rcases get_append_one h1 with h1 | ⟨rfl, rfl⟩
    · rcases get_append_one h2 with h2 | ⟨rfl, rfl⟩
      · exact h.dd i j c c' hij h1 h2 k hk hk'
      · exact hn k hk' (.inr (.inr (.inr (.inr (.inr ⟨c, List.mem_of_getElem? h1, hk⟩)))))
    · rcases get_append_one h2 with h2 | ⟨rfl, rfl⟩
      · exact hn k hk (.inr (.inr (.inr (.inr (.inr ⟨c', List.mem_of_getElem? h2, hk'⟩)))))
      · exact hij rfl
  · rcases List.mem_append.1 hx with hx | hx
    · exact h.dib k hk x hx hx'
    · simp at hx; subst hx; exact hn k hx' (.inr (.inl hk))
  · rcases List.mem_append.1 hx with hx | hx
    · exact h.dsb k hk x hx hx'
    · simp at hx; subst hx; exact hn k hx' (.inr (.inr (.inr (.inl hk))))
theorem own_new {v v' : Value} {w : World} (hat : v'.ownBlock = v.ownBlock ∨ ∃ b, v'.ownBlock = some b ∧ w.heap.size ≤ b) {k : Nat} (hk : v'.ownBlock = some k) : v.ownBlock = some k ∨ w.heap.size ≤ k := by
  rcases hat with h | ⟨b, h, hb⟩
  · exact .inl (h ▸ hk)
  · rw [h] at hk; cases hk; exact .inr hb
theorem OutW.pushI (h : OutW B d fv iv mv sv zv us w) (hg : w.grownBy w1 iv.ownBlock) {n : Int} (ho : w1.ownsRow B TII 1 v' (d.infos.length + 1) (d.infos.map (Value.int .i64) ++ [.int .i64 n]))
    (hat : v'.ownBlock = iv.ownBlock ∨ ∃ b, v'.ownBlock = some b ∧ w.heap.size ≤ b) : OutW B { d with infos := d.infos ++ [n] } fv v' mv sv zv us w1 := by
  have hf := Fr.of_grown hg
  refine ⟨owns_fr h.f hf (fun k hk => ne_typed h.f h.i (by decide) k hk), fun i c q h1 h2 => owns_fr (h.inn i c q h1 h2) hf (fun k hk e => h.dib k e.symm c (List.mem_of_getElem? h1) hk), h.dd, by simpa using ho, owns_fr h.m hf (fun k hk => ne_typed h.m h.i (by decide) k hk),
    owns_fr h.s hf (fun k hk e => h.dis k e.symm hk), owns_fr h.z hf (fun k hk => ne_typed h.z h.i (by decide) k hk), fun k hk x hx hm => ?_, h.dsb, fun k hk hs => ?_, h.dmz⟩
  · rcases own_new hat hk with hk | hk
    · exact h.dib k hk x hx hm
    · obtain ⟨r, hr⟩ := h.inn_own hx
      have := (World.ownsRow.lt hr k hm).2; omega
  · rcases own_new hat hk with hk | hk
    · exact h.dis k hk hs
    · have := (World.ownsRow.lt h.s k hs).2; omega
theorem OutW.pushS (h : OutW B d fv iv mv sv zv us w) (hg : w.grownBy w1 sv.ownBlock) {n : Int} (ho : w1.ownsRow B TII 1 v' (d.states.length + 1) (d.states.map (Value.int .i64) ++ [.int .i64 n]))
    (hat : v'.ownBlock = sv.ownBlock ∨ ∃ b, v'.ownBlock = some b ∧ w.heap.size ≤ b) : OutW B { d with states := d.states ++ [n] } fv iv mv v' zv us w1 := by
  have hf := Fr.of_grown hg
  refine ⟨owns_fr h.f hf (fun k hk => ne_typed h.f h.s (by decide) k hk), fun i c q h1 h2 => owns_fr (h.inn i c q h1 h2) hf (fun k hk e => h.dsb k e.symm c (List.mem_of_getElem? h1) hk), h.dd, owns_fr h.i hf (fun k hk e => h.dis k hk e.symm), owns_fr h.m hf (fun k hk => ne_typed h.m h.s (by decide) k hk),
    by simpa using ho, owns_fr h.z hf (fun k hk => ne_typed h.z h.s (by decide) k hk), h.dib, fun k hk x hx hm => ?_, fun k hk hs => ?_, h.dmz⟩
  · rcases own_new hat hk with hk | hk
    · exact h.dsb k hk x hx hm
    · obtain ⟨r, hr⟩ := h.inn_own hx
      have := (World.ownsRow.lt hr k hm).2; omega
  · rcases own_new hat hs with hs | hs
    · exact h.dis k hk hs
    · have := (World.ownsRow.lt h.i k hk).2; omega
theorem OutW.pushM (h : OutW B d fv iv mv sv zv us w) (hg : w.grownBy w1 mv.ownBlock) {n : Bool} (ho : w1.ownsRow B TBB 1 v' (d.marks.length + 1) (d.marks.map Value.bool ++ [.bool n]))
    (hat : v'.ownBlock = mv.ownBlock ∨ ∃ b, v'.ownBlock = some b ∧ w.heap.size ≤ b) : OutW B { d with marks := d.marks ++ [n] } fv iv v' sv zv us w1 := by
  have hf := Fr.of_grown hg
  refine ⟨owns_fr h.f hf (fun k hk => ne_typed h.f h.m (by decide) k hk), fun i c q h1 h2 => owns_fr (h.inn i c q h1 h2) hf (fun k hk => ne_typed (h.inn i c q h1 h2) h.m (by decide) k hk), h.dd, owns_fr h.i hf (fun k hk => ne_typed h.i h.m (by decide) k hk), by simpa using ho,
    owns_fr h.s hf (fun k hk => ne_typed h.s h.m (by decide) k hk), owns_fr h.z hf (fun k hk e => h.dmz k e.symm hk), h.dib, h.dsb, h.dis, fun k hk hs => ?_⟩
  · rcases own_new hat hk with hk | hk
    · exact h.dmz k hk hs
    · have := (World.ownsRow.lt h.z k hs).2; omega
theorem OutW.pushZ (h : OutW B d fv iv mv sv zv us w) (hg : w.grownBy w1 zv.ownBlock) {n : Bool} (ho : w1.ownsRow B TBB 1 v' (d.frozen.length + 1) (d.frozen.map Value.bool ++ [.bool n]))
    (hat : v'.ownBlock = zv.ownBlock ∨ ∃ b, v'.ownBlock = some b ∧ w.heap.size ≤ b) : OutW B { d with frozen := d.frozen ++ [n] } fv iv mv sv v' us w1 := by
  have hf := Fr.of_grown hg
  refine ⟨owns_fr h.f hf (fun k hk => ne_typed h.f h.z (by decide) k hk), fun i c q h1 h2 => owns_fr (h.inn i c q h1 h2) hf (fun k hk => ne_typed (h.inn i c q h1 h2) h.z (by decide) k hk), h.dd, owns_fr h.i hf (fun k hk => ne_typed h.i h.z (by decide) k hk), owns_fr h.m hf (fun k hk e => h.dmz k hk e.symm),
    owns_fr h.s hf (fun k hk => ne_typed h.s h.z (by decide) k hk), by simpa using ho, h.dib, h.dsb, h.dis, fun k hk hs => ?_⟩
  · rcases own_new hat hs with hs | hs
    · exact h.dmz k hk hs
    · have := (World.ownsRow.lt h.m k hk).2; omega
end
end Go.Proofs.YtphhdmopfmelbaaGreat

/- A world of one's own: one of its cells is turned. No walk. -/
namespace Go.Proofs.YtphhdmopfmelbaaGreat
open Go.RowKit Go.Proofs.YtphhdmopfmelbaaGreatW.PrintWords
set_option linter.unusedVariables false
set_option linter.unusedSimpArgs false

theorem own_at {w : World} {B e n j : Nat} {v u : Value} {us : List Value} (h : w.ownsRow B e 1 v n us) (hj : us[j]? = some u) : ∃ (ad : Addr) (c : Nat), v = .slice (some ad) n c ∧ n ≤ c ∧ v.ownBlock = some (ad.add j).block ∧ w.cell? (ad.add j) = some u ∧
    ∀ w1 : World, w1.ownsRow B e 1 v n us → w1.frozen? (ad.add j) = false ∧ ∀ x, (w1.setCell (ad.add j) x).ownsRow B e 1 v n (us.set j x) := by
  have hl := (List.getElem?_eq_some_iff.1 hj).1
  have hn := h.1
  have h0 := h
  rcases h.2 with ⟨_, h0⟩ | ⟨g, cap, cur, rfl, _, _, hc, _⟩
  · omega
  · have ha : (⟨g, 0, none⟩ : Addr).add j = ⟨g, j, none⟩ := by simp [Addr.add] <;> omega
    refine ⟨⟨g, 0, none⟩, cap, rfl, hc, by rw [ha]; rfl, ?_, fun w1 h1 => ⟨?_, fun x => ?_⟩⟩
    · rw [ha, World.ownsRow.cellAt h0 j (by omega), hj]
    · rw [ha]; exact World.ownsRow.frozenAt h1 j
    · rw [ha]; exact (World.ownsRow.stored h1 j x).1
theorem fr_one {w : World} {a : Addr} {x : Value} {S : Nat → Prop} (h : S a.block) : Fr w (w.setCell a x) S := (Fr.refl w S).setCell a x (fun _ => h)
section
variable {B : Nat} {d : WD} {fv iv mv sv zv : Value} {us : List Value} {w : World}
theorem map_getD {α : Type} (f : α → Value) (l : List α) {j : Nat} (h : j < l.length) (x : α) : (l.map f)[j]? = some (f (l.getD j x)) := by
  simp [List.getD_eq_getElem?_getD, List.getElem?_eq_getElem h]
theorem OutW.atI (h : OutW B d fv iv mv sv zv us w) {j : Nat} (hj : j < d.infos.length) : ∃ (ad : Addr) (c : Nat), iv = .slice (some ad) d.infos.length c ∧ w.cell? (ad.add j) = some (.int .i64 (d.infos.getD j 0)) ∧
    ∀ w1, OutW B d fv iv mv sv zv us w1 → w1.frozen? (ad.add j) = false ∧ ∀ x, OutW B { d with infos := d.infos.set j x } fv iv mv sv zv us (w1.setCell (ad.add j) (.int .i64 x)) ∧ Fr w1 (w1.setCell (ad.add j) (.int .i64 x)) (OutFoot fv iv mv sv zv us) := by
  obtain ⟨ad, c, e, _, hb, hc, hs⟩ := own_at h.i (map_getD _ _ hj 0)
  refine ⟨ad, c, e, hc, fun w1 h1 => ⟨(hs w1 h1.i).1, fun x => ⟨?_, fr_one (.inr (.inl hb))⟩⟩⟩
  have hf : Fr w1 (w1.setCell (ad.add j) (.int .i64 x)) (fun k => k = (ad.add j).block) := fr_one rfl
  refine ⟨owns_fr h1.f hf fun k hk e2 => ne_typed h1.f h1.i (by decide) k hk (by rw [e2]; first | exact hb | exact hb.symm), fun i u r a1 a2 => owns_fr (h1.inn i u r a1 a2) hf fun k hk e2 => h1.dib _ hb u (List.mem_of_getElem? a1) (by rw [← e2]; exact hk), h1.dd,
    by have := (hs w1 h1.i).2 (.int .i64 x); rw [List.length_set, List.map_set]; exact this,
    owns_fr h1.m hf fun k hk e2 => ne_typed h1.m h1.i (by decide) k hk (by rw [e2]; first | exact hb | exact hb.symm), owns_fr h1.s hf fun k hk e2 => h1.dis _ hb (by rw [← e2]; exact hk), owns_fr h1.z hf fun k hk e2 => ne_typed h1.z h1.i (by decide) k hk (by rw [e2]; first | exact hb | exact hb.symm), h1.dib, h1.dsb, h1.dis, h1.dmz⟩
theorem OutW.atS (h : OutW B d fv iv mv sv zv us w) {j : Nat} (hj : j < d.states.length) : ∃ (ad : Addr) (c : Nat), sv = .slice (some ad) d.states.length c ∧ w.cell? (ad.add j) = some (.int .i64 (d.states.getD j 0)) ∧
    ∀ w1, OutW B d fv iv mv sv zv us w1 → w1.frozen? (ad.add j) = false ∧ ∀ x, OutW B { d with states := d.states.set j x } fv iv mv sv zv us (w1.setCell (ad.add j) (.int .i64 x)) ∧ Fr w1 (w1.setCell (ad.add j) (.int .i64 x)) (OutFoot fv iv mv sv zv us) := by
  obtain ⟨ad, c, e, _, hb, hc, hs⟩ := own_at h.s (map_getD _ _ hj 0)
  refine ⟨ad, c, e, hc, fun w1 h1 => ⟨(hs w1 h1.s).1, fun x => ⟨?_, fr_one (.inr (.inr (.inr (.inl hb))))⟩⟩⟩
  have hf : Fr w1 (w1.setCell (ad.add j) (.int .i64 x)) (fun k => k = (ad.add j).block) := fr_one rfl
  refine ⟨owns_fr h1.f hf fun k hk e2 => ne_typed h1.f h1.s (by decide) k hk (by rw [e2]; first | exact hb | exact hb.symm), fun i u r a1 a2 => owns_fr (h1.inn i u r a1 a2) hf fun k hk e2 => h1.dsb _ hb u (List.mem_of_getElem? a1) (by rw [← e2]; exact hk), h1.dd,
    owns_fr h1.i hf fun k hk e2 => h1.dis k hk (by rw [e2]; first | exact hb | exact hb.symm), owns_fr h1.m hf fun k hk e2 => ne_typed h1.m h1.s (by decide) k hk (by rw [e2]; first | exact hb | exact hb.symm),
    by have := (hs w1 h1.s).2 (.int .i64 x); rw [List.length_set, List.map_set]; exact this,
    owns_fr h1.z hf fun k hk e2 => ne_typed h1.z h1.s (by decide) k hk (by rw [e2]; first | exact hb | exact hb.symm), h1.dib, h1.dsb, h1.dis, h1.dmz⟩
theorem OutW.atM (h : OutW B d fv iv mv sv zv us w) {j : Nat} (hj : j < d.marks.length) : ∃ (ad : Addr) (c : Nat), mv = .slice (some ad) d.marks.length c ∧ w.cell? (ad.add j) = some (.bool (d.marks.getD j false)) ∧
    ∀ w1, OutW B d fv iv mv sv zv us w1 → w1.frozen? (ad.add j) = false ∧ ∀ x, OutW B { d with marks := d.marks.set j x } fv iv mv sv zv us (w1.setCell (ad.add j) (.bool x)) ∧ Fr w1 (w1.setCell (ad.add j) (.bool x)) (OutFoot fv iv mv sv zv us) := by
  obtain ⟨ad, c, e, _, hb, hc, hs⟩ := own_at h.m (map_getD _ _ hj false)
  refine ⟨ad, c, e, hc, fun w1 h1 => ⟨(hs w1 h1.m).1, fun x => ⟨?_, fr_one (.inr (.inr (.inl hb)))⟩⟩⟩
  have hf : Fr w1 (w1.setCell (ad.add j) (.bool x)) (fun k => k = (ad.add j).block) := fr_one rfl
  refine ⟨owns_fr h1.f hf fun k hk e2 => ne_typed h1.f h1.m (by decide) k hk (by rw [e2]; first | exact hb | exact hb.symm), fun i u r a1 a2 => owns_fr (h1.inn i u r a1 a2) hf fun k hk e2 => ne_typed (h1.inn i u r a1 a2) h1.m (by decide) k hk (by rw [e2]; first | exact hb | exact hb.symm), h1.dd,
    owns_fr h1.i hf fun k hk e2 => ne_typed h1.i h1.m (by decide) k hk (by rw [e2]; first | exact hb | exact hb.symm),
    by have := (hs w1 h1.m).2 (.bool x); rw [List.length_set, List.map_set]; exact this,
    owns_fr h1.s hf fun k hk e2 => ne_typed h1.s h1.m (by decide) k hk (by rw [e2]; first | exact hb | exact hb.symm), owns_fr h1.z hf fun k hk e2 => h1.dmz _ hb (by rw [← e2]; exact hk), h1.dib, h1.dsb, h1.dis, h1.dmz⟩
theorem OutW.atZ (h : OutW B d fv iv mv sv zv us w) {j : Nat} (hj : j < d.frozen.length) : ∃ (ad : Addr) (c : Nat), zv = .slice (some ad) d.frozen.length c ∧ w.cell? (ad.add j) = some (.bool (d.frozen.getD j false)) ∧
    ∀ w1, OutW B d fv iv mv sv zv us w1 → w1.frozen? (ad.add j) = false ∧ ∀ x, OutW B { d with frozen := d.frozen.set j x } fv iv mv sv zv us (w1.setCell (ad.add j) (.bool x)) ∧ Fr w1 (w1.setCell (ad.add j) (.bool x)) (OutFoot fv iv mv sv zv us) := by
  obtain ⟨ad, c, e, _, hb, hc, hs⟩ := own_at h.z (map_getD _ _ hj false)
  refine ⟨ad, c, e, hc, fun w1 h1 => ⟨(hs w1 h1.z).1, fun x => ⟨?_, fr_one (.inr (.inr (.inr (.inr (.inl hb)))))⟩⟩⟩
  have hf : Fr w1 (w1.setCell (ad.add j) (.bool x)) (fun k => k = (ad.add j).block) := fr_one rfl
  refine ⟨owns_fr h1.f hf fun k hk e2 => ne_typed h1.f h1.z (by decide) k hk (by rw [e2]; first | exact hb | exact hb.symm), fun i u r a1 a2 => owns_fr (h1.inn i u r a1 a2) hf fun k hk e2 => ne_typed (h1.inn i u r a1 a2) h1.z (by decide) k hk (by rw [e2]; first | exact hb | exact hb.symm), h1.dd,
    owns_fr h1.i hf fun k hk e2 => ne_typed h1.i h1.z (by decide) k hk (by rw [e2]; first | exact hb | exact hb.symm), owns_fr h1.m hf fun k hk e2 => h1.dmz k hk (by rw [e2]; first | exact hb | exact hb.symm),
    owns_fr h1.s hf fun k hk e2 => ne_typed h1.s h1.z (by decide) k hk (by rw [e2]; first | exact hb | exact hb.symm),
    by have := (hs w1 h1.z).2 (.bool x); rw [List.length_set, List.map_set]; exact this, h1.dib, h1.dsb, h1.dis, h1.dmz⟩
theorem OutW.atF (h : OutW B d fv iv mv sv zv us w) {i j : Nat} (hi : i < d.fields.length) (hj : j < (d.fields.getD i []).length) : ∃ (ad : Addr) (c : Nat) (ad2 : Addr) (c2 : Nat), fv = .slice (some ad) d.fields.length c ∧ w.cell? (ad.add i) = some (.slice (some ad2) (d.fields.getD i []).length c2) ∧ w.cell? (ad2.add j) = some (.int .i64 ((d.fields.getD i []).getD j 0)) ∧
    ∀ w1, OutW B d fv iv mv sv zv us w1 → w1.frozen? (ad2.add j) = false ∧ ∀ x, OutW B { d with fields := d.fields.set i ((d.fields.getD i []).set j x) } fv iv mv sv zv us (w1.setCell (ad2.add j) (.int .i64 x)) ∧ Fr w1 (w1.setCell (ad2.add j) (.int .i64 x)) (OutFoot fv iv mv sv zv us) := by
  have hlb := h.lb
  have hu : us[i]? = some us[i] := List.getElem?_eq_getElem (by omega)
  have hd : d.fields[i]? = some (d.fields.getD i []) := by simp [List.getD_eq_getElem?_getD, List.getElem?_eq_getElem hi]
  generalize us[i] = u at hu
  obtain ⟨ad, c, e, _, hb, hc, _⟩ := own_at h.f hu
  obtain ⟨ad2, c2, e2, _, hb2, hc2, hs⟩ := own_at (h.inn i u _ hu hd) (map_getD _ _ hj 0)
  have hm := List.mem_of_getElem? hu
  refine ⟨ad, c, ad2, c2, e, by rw [hc, e2], hc2, fun w1 h1 => ⟨(hs w1 (h1.inn i u _ hu hd)).1, fun x => ⟨?_, fr_one (.inr (.inr (.inr (.inr (.inr ⟨u, hm, hb2⟩)))))⟩⟩⟩
  have hf : Fr w1 (w1.setCell (ad2.add j) (.int .i64 x)) (fun k => k = (ad2.add j).block) := fr_one rfl
  have hr := h1.inn i u _ hu hd
  refine ⟨by rw [List.length_set]; exact owns_fr h1.f hf fun k hk e3 => ne_typed h1.f hr (by decide) k hk (by rw [e3]; first | exact hb2 | exact hb2.symm), fun i' u' r a1 a2 => ?_, h1.dd,
    owns_fr h1.i hf fun k hk e3 => h1.dib k hk u hm (by rw [e3]; first | exact hb2 | exact hb2.symm), owns_fr h1.m hf fun k hk e3 => ne_typed h1.m hr (by decide) k hk (by rw [e3]; first | exact hb2 | exact hb2.symm), owns_fr h1.s hf fun k hk e3 => h1.dsb k hk u hm (by rw [e3]; first | exact hb2 | exact hb2.symm),
    owns_fr h1.z hf fun k hk e3 => ne_typed h1.z hr (by decide) k hk (by rw [e3]; first | exact hb2 | exact hb2.symm), h1.dib, h1.dsb, h1.dis, h1.dmz⟩
  rcases Nat.decEq i i' with hne | rfl
  · rw [List.getElem?_set_ne hne] at a2
    exact owns_fr (h1.inn i' u' r a1 a2) hf fun k hk e3 => h1.dd i i' u u' hne hu a1 _ hb2 (by rw [← e3]; exact hk)
  · rw [hu, Option.some.injEq] at a1
    subst a1
    rw [List.getElem?_set_self hi, Option.some.injEq] at a2
    subst a2
    rw [List.length_set, List.map_set]
    exact (hs w1 hr).2 (.int .i64 x)
end
end Go.Proofs.YtphhdmopfmelbaaGreat

/- help: build: its words; the accesses without a gate. No walk. -/
namespace Go.Proofs.YtphhdmopfmelbaaGreat
open Go.RowKit Go.Proofs.YtphhdmopfmelbaaGreatW.PrintWords
set_option linter.unusedVariables false
set_option linter.unusedSimpArgs false

/-! ### the accesses without a gate -/
section
variable (R : Nat → Option RecO) (X : Nat → Option ScxO) (w : World) (h : Repint w R X)
include h
theorem swing_nil (b : Nat) (o : RecO) (ho : R b = some o) (i : Nat) (hi : i < o.fields.length) (hn : o.fields.getD i none = none) (y : Option Nat) (hy : Ok R y) :
    Calls Tryz.prog 75 #[pv (some b), .nilIface, .int .i64 i, .pointer none, pv y] w fun e w' => e = .returned (.bool true) ∧ Fr w w' (fun k => k = o.fb) ∧ Repint w' (upd R b { o with fields := o.fields.set i y }) X := by
  refine (swing_int 0 none [] R X w h (gnil w) (Nat.zero_le _) (by simp) b o ho i (by omega) (by omega) none y (Ok.none R) hy).mono ?_
  rintro e w1 ⟨rfl, H, hr⟩
  simp only [Int.toNat_natCast] at hr ⊢
  rw [if_pos hn] at hr
  exact ⟨by rw [decide_eq_true hn], H.fr0, hr⟩
theorem freeze_nil (b : Nat) (o : RecO) (ho : R b = some o) (x y : Option Nat) (hx : Ok X x) (hy : Ok X y) (he : o.info = x) :
    Calls Tryz.prog 69 #[pv (some b), .nilIface, pv x, pv y] w fun e w' => e = .returned (.bool true) ∧ Fr w w' (fun k => k = b) ∧ Repint w' (upd R b { o with info := y }) X := by
  refine (freeze_int 0 none [] R X w h (gnil w) (Nat.zero_le _) (by simp) b o ho x y hx hy).mono ?_
  rintro e w1 ⟨rfl, H, hr⟩
  rw [if_pos he] at hr
  exact ⟨by rw [decide_eq_true he], H.fr0, hr⟩
theorem mark_nil (b : Nat) (o : RecO) (ho : R b = some o) :
    Calls Tryz.prog 74 #[pv (some b), .nilIface] w fun e w' => e = .returned (.tuple #[]) ∧ Fr w w' (fun k => k = b) ∧ Repint w' (upd R b { o with mark := true }) X := by
  refine (mark_int 0 none [] R X w h (gnil w) (Nat.zero_le _) (by simp) b o ho).mono ?_
  rintro e w1 ⟨rfl, H, hr⟩
  exact ⟨rfl, H.fr0, hr⟩
theorem commit_nil (b : Nat) (o : ScxO) (ho : X b = some o) :
    Calls Tryz.prog 76 #[pv (some b), .nilIface] w fun e w' => e = .returned (.tuple #[]) ∧ Fr w w' (fun k => k = b) ∧ Repint w' R (upd X b { o with state := 1 }) := by
  refine (commit_int 0 none [] R X w h (gnil w) (Nat.zero_le _) (by simp) b o ho).mono ?_
  rintro e w1 ⟨rfl, H, hr⟩
  exact ⟨rfl, H.fr0, hr⟩
theorem abort_nil (b : Nat) (o : ScxO) (ho : X b = some o) :
    Calls Tryz.prog 72 #[pv (some b), .nilIface] w fun e w' => e = .returned (.tuple #[]) ∧ Fr w w' (fun k => k = b) ∧ Repint w' R (upd X b { o with state := 2 }) := by
  refine (abort_int 0 none [] R X w h (gnil w) (Nat.zero_le _) (by simp) b o ho).mono ?_
  rintro e w1 ⟨rfl, H, hr⟩
  exact ⟨rfl, H.fr0, hr⟩
theorem saf_nil (b : Nat) (o : ScxO) (ho : X b = some o) :
    Calls Tryz.prog 73 #[pv (some b), .nilIface] w fun e w' => e = .returned (.tuple #[]) ∧ Fr w w' (fun k => k = b) ∧ Repint w' R (upd X b { o with frozen := true }) := by
  refine (setallfrozen_int 0 none [] R X w h (gnil w) (Nat.zero_le _) (by simp) b o ho).mono ?_
  rintro e w1 ⟨rfl, H, hr⟩
  exact ⟨rfl, H.fr0, hr⟩
end

/-! ### the infos that the plans want -/
def PJ0 (ps : List PlanD) (fs : List Nat) (i : Nat) : List (Option Nat) := match ps[i]? with | some p => p.V.map (fun n => fs[n.toNat]?) | none => []
def PJf (ps : List PlanD) (fs xs : List Nat) (i : Nat) : List (Option Nat) := match ps[i]? with | some p => (p.V.zip p.infos).map (fun x => ip fs xs x.1 x.2) | none => []
/-- j plans done, of plan j q infos. -/
def PJ (ps : List PlanD) (fs xs : List Nat) (j q i : Nat) : List (Option Nat) := if i < j then PJf ps fs xs i else if i = j then (PJf ps fs xs i).take q ++ (PJ0 ps fs i).drop q else PJ0 ps fs i
theorem PJ_zero (ps : List PlanD) (fs xs : List Nat) (i : Nat) : PJ0 ps fs i = PJ ps fs xs 0 0 i := by unfold PJ; simp
theorem PJ_next (ps : List PlanD) (fs xs : List Nat) (j q : Nat) (h1 : (PJf ps fs xs j).length ≤ q) (h2 : (PJ0 ps fs j).length ≤ q) (i : Nat) : PJ ps fs xs j q i = PJ ps fs xs (j + 1) 0 i := by
  unfold PJ
  rcases Nat.lt_trichotomy i j with h | h | h
  · simp [h, show i < j + 1 by omega]
  · subst h
    rw [if_neg (Nat.lt_irrefl _), if_pos rfl, if_pos (Nat.lt_succ_self _), List.take_of_length_le h1, List.drop_eq_nil_iff.2 h2, List.append_nil]
  · rw [if_neg (by omega), if_neg (by omega), if_neg (by omega)]
    split
    · simp
    · rfl
theorem PJ_step {ps : List PlanD} {fs xs : List Nat} {j q : Nat} {y : Option Nat} (h1 : (PJf ps fs xs j)[q]? = some y) (h2 : q < (PJ0 ps fs j).length) (i : Nat) : (if i = j then (PJ ps fs xs j q j).set q y else PJ ps fs xs j q i) = PJ ps fs xs j (q + 1) i := by
  unfold PJ
  rcases Nat.lt_trichotomy i j with h | h | h
  · simp [h, show ¬ i = j by omega]
  · subst h
    simp only [Nat.lt_irrefl, if_false, if_true]
    have hl := (List.getElem?_eq_some_iff.1 h1).1
    have hle : ((PJf ps fs xs i).take q).length = q := by simp; omega
    rw [List.set_append_right _ _ (by omega), hle, Nat.sub_self, List.drop_eq_getElem_cons h2, List.set_cons_zero, List.take_add_one, h1, Option.toList_some, List.append_assoc]
    rfl
  · simp [show ¬ i < j by omega, show ¬ i = j by omega]
theorem PJ_stay {ps : List PlanD} {fs xs : List Nat} {j q : Nat} {y : Option Nat} (h1 : (PJf ps fs xs j)[q]? = some y) (h2 : (PJ0 ps fs j)[q]? = some y) (i : Nat) : PJ ps fs xs j q i = PJ ps fs xs j (q + 1) i := by
  have hq := (List.getElem?_eq_some_iff.1 h2).1
  rw [← PJ_step h1 hq i]
  split
  · subst i
    unfold PJ
    simp only [Nat.lt_irrefl, if_false, if_true]
    have hl := (List.getElem?_eq_some_iff.1 h1).1
    have hle : ((PJf ps fs xs j).take q).length = q := by simp; omega
    rw [List.set_append_right _ _ (by omega), hle, Nat.sub_self, List.drop_eq_getElem_cons hq, List.set_cons_zero]
    rw [(List.getElem?_eq_some_iff.1 h2).2]
  · rfl
theorem PJ_len {ps : List PlanD} {fs xs : List Nat} {j : Nat} {p : PlanD} (hp : ps[j]? = some p) (hl : p.infos.length = p.V.length) : (PJf ps fs xs j).length = p.V.length ∧ (PJ0 ps fs j).length = p.V.length := by
  unfold PJf PJ0; rw [hp]; simp [hl]
theorem PJ_at {ps : List PlanD} {fs xs : List Nat} {j q : Nat} {p : PlanD} (hp : ps[j]? = some p) (hl : p.infos.length = p.V.length) (hq : q < p.V.length) : (PJf ps fs xs j)[q]? = some (ip fs xs p.V[q] (p.infos[q]'(by omega))) ∧ (PJ0 ps fs j)[q]? = some fs[p.V[q].toNat]? := by
  unfold PJf PJ0; rw [hp]
  simp [List.getElem?_eq_getElem hq, List.getElem?_zip_eq_some, show q < p.infos.length by omega]
  exact ⟨_, _, ⟨rfl, rfl⟩, rfl⟩

section
variable {w w1 w' : World} {B m b bx : Nat} {v : WV} {d : WD} {R R' : Nat → Option RecO} {X X' : Nat → Option ScxO} {s : ScxO} {rs fs xs : List Nat} {p : PlanD} {ps : List PlanD} {J J' : Nat → List (Option Nat)} {inf : List (Option Nat)} {v1 v2 v3 v' : Value}
/-- The list of SCX-records grows. -/
theorem PlansIn.grow3 (h : PlansIn w B X rs xs ps J v2 v3) (hps : xs.length ≤ ps.length) (hg : w.grownBy w1 v3.ownBlock) {n : Nat} {us : List Value} (ho : w.ownsRow B TPX 1 v3 n us) (hat : v'.ownBlock = v3.ownBlock ∨ ∃ b, v'.ownBlock = some b ∧ w.heap.size ≤ b) : PlansIn w1 B X rs xs ps J v2 v' := by
  refine ⟨fun i b p hi hp => ?_, fun i b s k hi hs hk => ?_, h.ap2⟩
  · obtain ⟨s, hs, hm⟩ := h.at_ i b p hi hp
    refine ⟨s, hs, hm.fr (Fr.of_grown hg) (fun k hk e => ?_)⟩
    rcases hk with hk | hk | hk
    · obtain ⟨c, hc⟩ := owns_typed hm.ov k hk
      obtain ⟨c', hc'⟩ := owns_typed ho k e.symm
      exact absurd (hc.inj hc').1 (by decide)
    · exact (h.ap i b s k hi hs hk).2 e.symm
    · obtain ⟨c, hc⟩ := owns_typed hm.ob k hk
      obtain ⟨c', hc'⟩ := owns_typed ho k e.symm
      exact absurd (hc.inj hc').1 (by decide)
  · refine ⟨(h.ap i b s k hi hs hk).1, fun e => ?_⟩
    rcases hat with hat | ⟨c, hc, hle⟩
    · exact (h.ap i b s k hi hs hk).2 (hat ▸ e)
    · have hlt := (List.getElem?_eq_some_iff.1 hi).1
      obtain ⟨s', hs', hm⟩ := h.at_ i b _ hi (List.getElem?_eq_getElem (show i < ps.length by omega))
      rw [hs] at hs'
      cases hs'
      have := (World.ownsRow.lt hm.oi k hk).2
      rw [hc] at e
      cases e
      omega
/-- One of the infos of SCX-record i is written. -/
theorem PlansIn.setInf (h : PlansIn w B X rs xs ps J v2 v3) {i : Nat} (hi : xs[i]? = some b) (hs : X b = some s) {a : Addr} {y : Option Nat} {q : Nat} (hb : s.si.ownBlock = some a.block) (hT : ∃ cc, Blk w a.block TPX cc) (hw : ∀ p, ps[i]? = some p → (w.setCell a (pv y)).ownsRow B TPX 1 s.si p.V.length (((J i).set q y).map pv)) :
    PlansIn (w.setCell a (pv y)) B X rs xs ps (fun k => if k = i then (J i).set q y else J k) v2 v3 := by
  refine ⟨fun k c p hk hp => ?_, h.ap, h.ap2⟩
  obtain ⟨t, ht, hm⟩ := h.at_ k c p hk hp
  have hf : Fr w (w.setCell a (pv y)) (fun k => k = a.block) := fr_one rfl
  by_cases e : k = i
  · subst e
    rw [hi] at hk; cases hk
    rw [hs] at ht; cases ht
    refine ⟨s, hs, ?_⟩
    rw [if_pos rfl]
    have hne : ∀ {e n : Nat} {u : Value} {us : List Value}, w.ownsRow B e 1 u n us → e ≠ TPX → ∀ k, u.ownBlock = some k → ¬ k = a.block := fun ho he k hk e2 => by
      obtain ⟨c, hc⟩ := owns_typed ho k hk
      obtain ⟨c', hc'⟩ := owns_typed hm.oi a.block hb
      exact he ((e2 ▸ hc).inj hc').1
    exact ⟨owns_fr hm.ov hf (hne hm.ov (by decide)), hw p hp, owns_fr hm.ob hf (hne hm.ob (by decide)), hm.e1, hm.e2, hm.e3, hm.e4⟩
  · refine ⟨t, ht, ?_⟩
    rw [if_neg e]
    obtain ⟨cc, hcc⟩ := hT
    refine hm.fr hf (fun k' hk' e2 => ?_)
    rcases hk' with hk' | hk' | hk'
    · obtain ⟨c1, hc1⟩ := owns_typed hm.ov k' hk'
      subst e2
      exact absurd (hc1.inj hcc).1 (by decide)
    · subst e2
      exact h.ap2 k i c b t s _ e hk hi ht hs hk' hb
    · obtain ⟨c1, hc1⟩ := owns_typed hm.ob k' hk'
      subst e2
      exact absurd (hc1.inj hcc).1 (by decide)
end
end Go.Proofs.YtphhdmopfmelbaaGreat
