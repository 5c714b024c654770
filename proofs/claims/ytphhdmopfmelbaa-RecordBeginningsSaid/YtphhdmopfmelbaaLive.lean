/- record: a live world, by numbers: what the acts do to it. No walk. -/
import Derived.Test.YtphhdmopfmelbaaRecMade
namespace Go.Proofs.Ytphhdmopfmelbaa
open Go.RowKit Go.Proofs.YtphhdmopfmelbaaW.PrintWords
set_option linter.unusedVariables false
set_option linter.unusedSimpArgs false

/-- In form. -/
structure WD.Form (d : WD) : Prop where
  l0 : d.fields.length ≤ 64
  l1 : ∀ r ∈ d.fields, r.length ≤ 64
  l3 : d.states.length ≤ 64
  e1 : d.infos.length = d.fields.length
  e2 : d.marks.length = d.fields.length
  e4 : d.frozen.length = d.states.length
  hF : ∀ r ∈ d.fields, ∀ n ∈ r, -1 ≤ n ∧ n < d.fields.length
  hI : ∀ n ∈ d.infos, -1 ≤ n ∧ n < d.states.length
  hS : ∀ n ∈ d.states, 0 ≤ n ∧ n < 3
/-- An act fits. -/
structure WD.Fit (d : WD) (k at_ a b c : Int) : Prop where
  k0 : 1 ≤ k
  k1 : k ≤ 11
  at0 : 0 ≤ at_
  at1 : k < 7 → at_ < d.fields.length
  at2 : 7 ≤ k → at_ < d.states.length
  a0 : k = 1 ∨ k = 2 → 0 ≤ a ∧ a < (d.fields.getD at_.toNat []).length
  b0 : k = 2 → (-1 ≤ b ∧ b < d.fields.length) ∧ (-1 ≤ c ∧ c < d.fields.length)
  b1 : k = 4 → (-1 ≤ b ∧ b < d.states.length) ∧ (0 ≤ c ∧ c < d.states.length)
def bitI (f : Bool) : Int := if f then 1 else 0
/-- The kind of its access. -/
def kd (k : Int) : Int := if k = 1 ∨ k = 3 ∨ k = 5 ∨ k = 7 ∨ k = 10 then 1 else if k = 2 ∨ k = 4 then 5 else 2
/-- The act: its answer, the world behind it. -/
def doD (d : WD) (k at_ a b c : Int) : Int × WD :=
  if k = 1 then ((d.fields.getD at_.toNat []).getD a.toNat 0, d)
  else if k = 2 then (if (d.fields.getD at_.toNat []).getD a.toNat 0 = b then (1, { d with fields := d.fields.set at_.toNat ((d.fields.getD at_.toNat []).set a.toNat c) }) else (0, d))
  else if k = 3 then (d.infos.getD at_.toNat 0, d)
  else if k = 4 then (if d.infos.getD at_.toNat 0 = b then (1, { d with infos := d.infos.set at_.toNat c }) else (0, d))
  else if k = 5 then (bitI (d.marks.getD at_.toNat false), d)
  else if k = 6 then (0, { d with marks := d.marks.set at_.toNat true })
  else if k = 7 then (d.states.getD at_.toNat 0, d)
  else if k = 8 then (0, { d with states := d.states.set at_.toNat 1 })
  else if k = 9 then (0, { d with states := d.states.set at_.toNat 2 })
  else if k = 10 then (bitI (d.frozen.getD at_.toNat false), d)
  else (0, { d with frozen := d.frozen.set at_.toNat true })

theorem getD_mem {α : Type} {l : List α} {i : Nat} (h : i < l.length) (x : α) : l.getD i x ∈ l := by
  rw [List.getD_eq_getElem?_getD, List.getElem?_eq_getElem h]; exact List.getElem_mem h
theorem getD_set {α : Type} (l : List α) (i j : Nat) (a x : α) (h : i < l.length) : (l.set i a).getD j x = if j = i then a else l.getD j x := by
  rw [List.getD_eq_getElem?_getD, List.getElem?_set]
  by_cases e : i = j
  · subst e; simp [h]
  · rw [if_neg e, if_neg (fun e2 => e e2.symm), List.getD_eq_getElem?_getD]
theorem WD.Fit.row {d : WD} {k at_ a b c : Int} (h : d.Fit k at_ a b c) (hk : k < 7) : at_.toNat < d.fields.length := by
  have := h.at0; have := h.at1 hk; omega
theorem doD_form {d : WD} (h : d.Form) {k at_ a b c : Int} (f : d.Fit k at_ a b c) : (doD d k at_ a b c).2.Form := by
  unfold doD
  split
  · exact h
  split
  · split
    · have hr := f.row (by omega)
      have hm := getD_mem hr []
      have key : ∀ r, r ∈ d.fields.set at_.toNat ((d.fields.getD at_.toNat []).set a.toNat c) → r ∈ d.fields ∨ r = (d.fields.getD at_.toNat []).set a.toNat c := fun r hr => List.mem_or_eq_of_mem_set hr
      refine ⟨by simpa using h.l0, fun r hr => ?_, h.l3, by simpa using h.e1, by simpa using h.e2, h.e4, fun r hr n hn => ?_, h.hI, h.hS⟩
      · rcases key r hr with hr | rfl
        · exact h.l1 r hr
        · simpa using h.l1 _ hm
      · simp only [List.length_set]
        rcases key r hr with hr | rfl
        · exact h.hF r hr n hn
        · rcases List.mem_or_eq_of_mem_set hn with hn | rfl
          · exact h.hF _ hm n hn
          · exact (f.b0 (by assumption)).2
    · exact h
  split
  · exact h
  split
  · split
    · refine ⟨h.l0, h.l1, h.l3, by simpa using h.e1, h.e2, h.e4, h.hF, fun n hn => ?_, h.hS⟩
      rcases List.mem_or_eq_of_mem_set hn with hn | rfl
      · exact h.hI n hn
      · have := (f.b1 (by assumption)).2
        simp only; omega
    · exact h
  split
  · exact h
  split
  · exact ⟨h.l0, h.l1, h.l3, h.e1, by simpa using h.e2, h.e4, h.hF, h.hI, h.hS⟩
  split
  · exact h
  split
  · refine ⟨h.l0, h.l1, by simpa using h.l3, h.e1, h.e2, by simpa using h.e4, h.hF, by simpa using h.hI, fun n hn => ?_⟩
    rcases List.mem_or_eq_of_mem_set hn with hn | rfl
    · exact h.hS n hn
    · omega
  split
  · refine ⟨h.l0, h.l1, by simpa using h.l3, h.e1, h.e2, by simpa using h.e4, h.hF, by simpa using h.hI, fun n hn => ?_⟩
    rcases List.mem_or_eq_of_mem_set hn with hn | rfl
    · exact h.hS n hn
    · omega
  split
  · exact h
  · exact ⟨h.l0, h.l1, h.l3, h.e1, h.e2, by simpa using h.e4, h.hF, h.hI, h.hS⟩

/-! ### numbers and pointers -/
theorem rp_inj {rs : List Nat} (hn : rs.Nodup) {m n : Int} (m0 : -1 ≤ m) (m1 : m < rs.length) (n0 : -1 ≤ n) (n1 : n < rs.length) : rp rs m = rp rs n ↔ m = n := by
  refine ⟨fun h => ?_, fun h => by rw [h]⟩
  unfold rp at h
  split at h <;> split at h
  · omega
  · rw [List.getElem?_eq_getElem (by omega)] at h; cases h
  · rw [List.getElem?_eq_getElem (by omega)] at h; cases h
  · rw [List.getElem?_eq_getElem (show n.toNat < rs.length by omega)] at h
    have := nodup_get hn h (List.getElem?_eq_getElem (show n.toNat < rs.length by omega))
    omega
theorem idx_at {l : List Nat} (hn : l.Nodup) {k : Nat} (hk : k < l.length) : idx (l.map some) l[k]? = k := by
  refine idx_hit (by simpa using hk) (fun j hj e => ?_) (by simp [List.getElem?_eq_getElem hk])
  rw [List.getElem?_map, List.getElem?_eq_getElem (show j < l.length by omega), List.getElem?_eq_getElem hk] at e
  have := (List.getElem_inj hn).1 (by simpa using e)
  omega
theorem idx_none {l : List Nat} {x : Option Nat} (h : ∀ b, x = some b → b ∉ l) : idx (l.map some) x = -1 := by
  refine idx_miss (fun j hj e => ?_)
  rw [List.length_map] at hj
  rw [List.getElem?_map, List.getElem?_eq_getElem hj] at e
  simp only [Option.map_some, Option.some.injEq] at e
  exact h _ e.symm (List.getElem_mem hj)
theorem idx_rp {rs : List Nat} (hn : rs.Nodup) {n : Int} (n0 : -1 ≤ n) (n1 : n < rs.length) : idx (rs.map some) (rp rs n) = n := by
  unfold rp
  split
  · rw [idx_none (fun b e => by cases e)]; omega
  · rw [idx_at hn (by omega)]; omega
theorem ip_inj {fs xs : List Nat} (hn : (fs ++ xs).Nodup) {i m n : Int} (i0 : 0 ≤ i) (i1 : i < fs.length) (m0 : -1 ≤ m) (m1 : m < xs.length) (n0 : -1 ≤ n) (n1 : n < xs.length) : ip fs xs i m = ip fs xs i n ↔ m = n := by
  obtain ⟨h1, h2, h3⟩ := List.nodup_append.1 hn
  refine ⟨fun h => ?_, fun h => by rw [h]⟩
  unfold ip at h
  split at h <;> split at h
  · omega
  · rw [List.getElem?_eq_getElem (show i.toNat < fs.length by omega), List.getElem?_eq_getElem (show n.toNat < xs.length by omega)] at h
    exact absurd (Option.some.inj h) (h3 _ (List.getElem_mem _) _ (List.getElem_mem _))
  · rw [List.getElem?_eq_getElem (show i.toNat < fs.length by omega), List.getElem?_eq_getElem (show m.toNat < xs.length by omega)] at h
    exact absurd (Option.some.inj h).symm (h3 _ (List.getElem_mem _) _ (List.getElem_mem _))
  · rw [List.getElem?_eq_getElem (show n.toNat < xs.length by omega)] at h
    have := nodup_get h2 h (List.getElem?_eq_getElem (show n.toNat < xs.length by omega))
    omega
theorem idx_ip {fs xs : List Nat} (hn : (fs ++ xs).Nodup) {i n : Int} (i0 : 0 ≤ i) (i1 : i < fs.length) (n0 : -1 ≤ n) (n1 : n < xs.length) : idx (xs.map some) (ip fs xs i n) = n := by
  obtain ⟨h1, h2, h3⟩ := List.nodup_append.1 hn
  unfold ip
  split
  · rw [idx_none (fun b e hb => ?_)]
    · omega
    · exact h3 b (List.mem_of_getElem? e) b hb rfl
  · rw [idx_at h2 (by omega)]; omega
/-! ### a live world turns -/
section
variable {d d' : WD} {B m : Nat} {w w' : World} {R R' : Nat → Option RecO} {X X' : Nat → Option ScxO} {rs fs xs : List Nat} {v1 v2 v3 : Value} {g : Option Nat} {ks ks' : List Int} {S : Nat → Prop}
/-- These blocks are records', fields', SCX-records'. -/
def Thing (B : Nat) (w : World) (k : Nat) : Prop := B ≤ k ∧ ∃ T ys, Blk w k T ys ∧ (T = 178 ∨ T = 170 ∨ T = 152)
theorem LiveAt.row (h : LiveAt d B m w R X rs fs xs v1 v2 v3) {i : Nat} (hi : i < d.fields.length) : ∃ b fb, rs[i]? = some b ∧ R b = some ⟨[.int .i64 (i : Int)], fb, (d.fields.getD i []).map (rp rs), ip fs xs i (d.infos.getD i 0), d.marks.getD i false⟩ ∧ B ≤ fb := by
  have hb : rs[i]? = some (rs[i]'(by have := h.hr; omega)) := List.getElem?_eq_getElem _
  obtain ⟨fb, h1, h2⟩ := h.stage.r i _ hb
  exact ⟨_, fb, hb, h1, h2⟩
theorem LiveAt.scx (h : LiveAt d B m w R X rs fs xs v1 v2 v3) {i : Nat} (hi : i < d.states.length) : ∃ b s, xs[i]? = some b ∧ X b = some s ∧ PP d i s := by
  have hb : xs[i]? = some (xs[i]'(by have := h.hx; omega)) := List.getElem?_eq_getElem _
  obtain ⟨s, h1, h2⟩ := h.stage.x i _ hb
  exact ⟨_, s, hb, h1, h2⟩
theorem LiveAt.turn (h : LiveAt d B m w R X rs fs xs v1 v2 v3) (hg : GAtI w B g ks) (hs : StepI B g w w' ks' S) (hS : ∀ k, S k → Thing B w k) (hl0 : d'.fields.length = d.fields.length) (hl3 : d'.states.length = d.states.length)
    (hst : Stage w' B R' X' rs fs xs (fun i => (d'.fields.getD i []).map (rp rs)) (fun i => ip fs xs i (d'.infos.getD i 0)) (fun i => d'.marks.getD i false) (PP d')) : LiveAt d' B m w' R' X' rs fs xs v1 v2 v3 :=
  ⟨by rw [hl0]; exact h.hr, by rw [hl3]; exact h.hx, h.made.step hg hs ⟨by decide, by decide⟩ (fun k hk => by
    obtain ⟨_, T, ys, hb, hT⟩ := hS k hk
    refine ⟨T, ys, hb, ?_⟩
    rcases hT with rfl | rfl | rfl <;> refine ⟨by decide, by decide, by decide⟩), hst, h.hm⟩
theorem LiveAt.same (h : LiveAt d B m w R X rs fs xs v1 v2 v3) (hg : GAtI w B g ks) (hs : StepI B g w w' ks' (fun _ => False)) (hr : Repint w' R X) : LiveAt d B m w' R X rs fs xs v1 v2 v3 :=
  h.turn hg hs (fun _ hk => hk.elim) rfl rfl (h.stage.rep' hr)
theorem LiveAt.thingR (h : LiveAt d B m w R X rs fs xs v1 v2 v3) {i b : Nat} {o : RecO} (hi : rs[i]? = some b) (hb : R b = some o) : Thing B w b ∧ Thing B w o.fb := by
  obtain ⟨fb, h1, h2⟩ := h.stage.r i b hi
  rw [hb] at h1
  have : o.fb = fb := congrArg RecO.fb (Option.some.inj h1)
  exact ⟨⟨h.stage.lo _ (by simp [List.mem_of_getElem? hi]), _, _, (h.stage.rep.recs _ _ hb).1, .inl rfl⟩, ⟨by omega, _, _, h.stage.rep.fld _ _ hb, .inr (.inl rfl)⟩⟩
theorem LiveAt.thingX (h : LiveAt d B m w R X rs fs xs v1 v2 v3) {i b : Nat} {o : ScxO} (hi : xs[i]? = some b) (hb : X b = some o) : Thing B w b :=
  ⟨h.stage.lo _ (by simp [List.mem_of_getElem? hi]), _, _, h.stage.rep.scx _ _ hb, .inr (.inr rfl)⟩
theorem LiveAt.setRec (h : LiveAt d B m w R X rs fs xs v1 v2 v3) (hg : GAtI w B g ks) {i b fb : Nat} (hi : rs[i]? = some b) (ho : R b = some ⟨[.int .i64 (i : Int)], fb, (d.fields.getD i []).map (rp rs), ip fs xs i (d.infos.getD i 0), d.marks.getD i false⟩)
    {fl : List (Option Nat)} {inf : Option Nat} {mk : Bool} {c : Nat} (hc : c = b ∨ c = fb) (hs : StepI B g w w' ks' (fun k => k = c)) (hrep : Repint w' (upd R b ⟨[.int .i64 (i : Int)], fb, fl, inf, mk⟩) X)
    (hl0 : d'.fields.length = d.fields.length) (hl3 : d'.states = d.states) (hl4 : d'.frozen = d.frozen)
    (h1 : ∀ k, (d'.fields.getD k []).map (rp rs) = if k = i then fl else (d.fields.getD k []).map (rp rs)) (h2 : ∀ k : Nat, ip fs xs k (d'.infos.getD k 0) = if k = i then inf else ip fs xs k (d.infos.getD k 0)) (h3 : ∀ k, d'.marks.getD k false = if k = i then mk else d.marks.getD k false) :
    LiveAt d' B m w' (upd R b ⟨[.int .i64 (i : Int)], fb, fl, inf, mk⟩) X rs fs xs v1 v2 v3 :=
  h.turn hg hs (fun k hk => by
    subst hk
    rcases hc with rfl | rfl
    · exact (h.thingR hi ho).1
    · exact (h.thingR hi ho).2) hl0 (by rw [hl3]) ((h.stage.setRec hi ho hrep).cong (fun k _ => (h1 k).symm) (fun k _ => (h2 k).symm) (fun k _ => (h3 k).symm) (fun k s _ hp => by unfold PP at *; rw [hl3, hl4]; exact hp))
theorem LiveAt.setScx (h : LiveAt d B m w R X rs fs xs v1 v2 v3) (hg : GAtI w B g ks) {i b : Nat} (hi : xs[i]? = some b) {s s' : ScxO} (ho : X b = some s) (hp : PP d i s) (hs : StepI B g w w' ks' (fun k => k = b)) (hrep : Repint w' R (upd X b s'))
    (hl0 : d'.fields = d.fields) (hl1 : d'.infos = d.infos) (hl2 : d'.marks = d.marks) (hl3 : d'.states.length = d.states.length) (h1 : ∀ k, d'.states.getD k 0 = if k = i then s'.state else d.states.getD k 0) (h2 : ∀ k, d'.frozen.getD k false = if k = i then s'.frozen else d.frozen.getD k false) :
    LiveAt d' B m w' R (upd X b s') rs fs xs v1 v2 v3 :=
  h.turn hg hs (fun k hk => hk ▸ h.thingX hi ho) (by rw [hl0]) hl3 (by
    rw [hl0, hl1, hl2]
    exact h.stage.setScx hi hrep ⟨by rw [h1, if_pos rfl], by rw [h2, if_pos rfl]⟩ (fun k s1 hk hp1 => ⟨by rw [h1, if_neg hk]; exact hp1.1, by rw [h2, if_neg hk]; exact hp1.2⟩))
end
end Go.Proofs.Ytphhdmopfmelbaa
