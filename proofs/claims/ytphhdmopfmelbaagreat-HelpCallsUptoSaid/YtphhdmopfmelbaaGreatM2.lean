/- Joined texts: Heap Rec Sl. -/
import Derived.Test.YtphhdmopfmelbaaGreatM1
import Derived.Lib.Hide

/-
  Data-records and SCX-records in memory, by the blocks at which they stand. No program in sight.
-/
namespace Go.Proofs.YtphhdmopfmelbaaGreat
open Go.RowKit
set_option linter.unusedVariables false

/-- A data-record: what it holds, the block of its fields, its fields' records (blocks), its info, its mark. -/
structure RecO where
  data : List Value
  fb : Nat
  fields : List (Option Nat)
  info : Option Nat
  mark : Bool
def u32b (b : Bool) : Value := .int .u32 (if b then 1 else 0)
def RecO.tail (o : RecO) : List Value := [.slice (some ⟨o.fb, 0, none⟩) o.fields.length o.fields.length, pv o.info, u32b o.mark]
def RecO.cells (o : RecO) : List Value := o.data ++ o.tail
/-- An SCX-record: its three slices as values, where its field is, from what to what, its state, whether all is frozen. -/
structure ScxO where
  sv : Value
  si : Value
  sf : Value
  at_ : Int
  fld : Int
  old : Option Nat
  new : Option Nat
  state : Int
  frozen : Bool
def ScxO.cells (s : ScxO) : List Value := [s.sv, s.si, s.sf, .int .i64 s.at_, .int .i64 s.fld, pv s.old, pv s.new, .int .i64 s.state, u32b s.frozen]

/-- One place of a map is another. -/
def upd {α : Type} (R : Nat → Option α) (b : Nat) (o : α) : Nat → Option α := fun k => if k = b then some o else R k
theorem upd_self {α : Type} (R : Nat → Option α) (b : Nat) (o : α) : upd R b o b = some o := by simp [upd]
theorem upd_ne {α : Type} (R : Nat → Option α) {b k : Nat} (o : α) (h : k ≠ b) : upd R b o k = R k := by simp [upd, h]
theorem upd_cases {α : Type} {R : Nat → Option α} {b k : Nat} {o o' : α} (h : upd R b o k = some o') : (k = b ∧ o' = o) ∨ (k ≠ b ∧ R k = some o') := by
  unfold upd at h
  split at h
  · exact .inl ⟨‹_›, (Option.some.inj h).symm⟩
  · exact .inr ⟨‹_›, h⟩

/-- The memory holds these data-records and SCX-records. TR: the record's type, dl: how many cells its contents have; TC: the fields' cells' type; TX: the SCX-record's type. -/
structure Rep (TR dl TC TX : Nat) (w : World) (R : Nat → Option RecO) (X : Nat → Option ScxO) : Prop where
  recs : ∀ b o, R b = some o → Blk w b TR o.cells ∧ o.data.length = dl
  fld : ∀ b o, R b = some o → Blk w o.fb TC (o.fields.map pv)
  inj : ∀ b o b' o', R b = some o → R b' = some o' → o.fb = o'.fb → b = b'
  scx : ∀ b s, X b = some s → Blk w b TX s.cells
  kf : ∀ b o, R b = some o → ∀ x, some x ∈ o.fields → (R x).isSome
  ki : ∀ b o, R b = some o → ∀ x, o.info = some x → (X x).isSome

/-- x is nil, or one of R. -/
def Ok {α : Type} (R : Nat → Option α) (x : Option Nat) : Prop := ∀ b, x = some b → (R b).isSome
theorem Ok.none {α : Type} (R : Nat → Option α) : Ok R none := fun _ h => by cases h
theorem Ok.of {α : Type} {R : Nat → Option α} {b : Nat} {o : α} (h : R b = some o) : Ok R (some b) := fun b' e => by cases e; simp [h]
theorem Ok.upd {α : Type} {R : Nat → Option α} {x : Option Nat} (h : Ok R x) (b : Nat) (o : α) : Ok (upd R b o) x := fun b' e => by
  have := h b' e
  unfold Go.Proofs.YtphhdmopfmelbaaGreat.upd
  split <;> simp_all

section
variable {TR dl TC TX : Nat} {w w' : World} {R : Nat → Option RecO} {X : Nat → Option ScxO}
theorem RecO.cells_length (o : RecO) : o.cells.length = o.data.length + 3 := by simp [RecO.cells, RecO.tail]
theorem Rep.recPtr (h : Rep TR dl TC TX w R X) {x : Option Nat} (hx : Ok R x) : PtrTo TR (dl + 3) w x := fun b e => by
  obtain ⟨o, ho⟩ := Option.isSome_iff_exists.1 (hx b e)
  obtain ⟨hb, hl⟩ := h.recs b o ho
  exact ⟨_, hb, by rw [RecO.cells_length, hl]⟩
theorem Rep.scxPtr (h : Rep TR dl TC TX w R X) {x : Option Nat} (hx : Ok X x) : PtrTo TX 9 w x := fun b e => by
  obtain ⟨s, hs⟩ := Option.isSome_iff_exists.1 (hx b e)
  exact ⟨_, h.scx b s hs, rfl⟩
theorem Rep.okField (h : Rep TR dl TC TX w R X) {b : Nat} {o : RecO} (ho : R b = some o) {i : Nat} {p : Option Nat} (hp : o.fields[i]? = some p) : Ok R p := fun x e => by
  subst e
  exact h.kf b o ho x (List.mem_of_getElem? hp)
theorem Rep.okInfo (h : Rep TR dl TC TX w R X) {b : Nat} {o : RecO} (ho : R b = some o) : Ok X o.info := fun x e => h.ki b o ho x e
/-- The cells of a record. -/
theorem Rep.cell (h : Rep TR dl TC TX w R X) {b : Nat} {o : RecO} (ho : R b = some o) (j : Nat) : w.cell? ⟨b, dl + j, none⟩ = o.tail[j]? := by
  obtain ⟨hb, hl⟩ := h.recs b o ho
  rw [hb.cell, ← hl, RecO.cells, List.getElem?_append_right (by omega)]
  congr 1; omega
theorem Rep.at_ (h : Rep TR dl TC TX w R X) {b : Nat} {o : RecO} (ho : R b = some o) (j : Nat) : o.cells[dl + j]? = o.tail[j]? := by
  obtain ⟨hb, hl⟩ := h.recs b o ho
  rw [← hl, RecO.cells, List.getElem?_append_right (by omega)]
  congr 1; omega
theorem RecO.set_tail (o : RecO) (hl : o.data.length = dl) (j : Nat) (v : Value) : o.cells.set (dl + j) v = o.data ++ o.tail.set j v := by
  subst hl
  rw [RecO.cells, List.set_append_right _ _ (by omega)]
  congr 2; omega
/-- Other blocks have turned. -/
theorem Rep.fr (h : Rep TR dl TC TX w R X) {S : Nat → Prop} (hf : Fr w w' S) (hR : ∀ b o, R b = some o → ¬ S b ∧ ¬ S o.fb) (hX : ∀ b s, X b = some s → ¬ S b) : Rep TR dl TC TX w' R X :=
  ⟨fun b o ho => ⟨hf.blk (h.recs b o ho).1 (hR b o ho).1, (h.recs b o ho).2⟩, fun b o ho => hf.blk (h.fld b o ho) (hR b o ho).2, h.inj, fun b s hs => hf.blk (h.scx b s hs) (hX b s hs), h.kf, h.ki⟩
theorem Rep.below (h : Rep TR dl TC TX w R X) (hb : Below w.heap.size w w') : Rep TR dl TC TX w' R X :=
  h.fr (S := fun _ => False) (Fr.of_below0 hb) (fun _ _ _ => ⟨id, id⟩) (fun _ _ _ => id)
/-- Blocks of other types have turned. -/
theorem Rep.types (h : Rep TR dl TC TX w R X) {S : Nat → Prop} (hf : Fr w w' S) (hS : ∀ k, S k → ∃ T ys, Blk w k T ys ∧ T ≠ TR ∧ T ≠ TC ∧ T ≠ TX) : Rep TR dl TC TX w' R X := by
  refine h.fr hf (fun b o ho => ⟨fun hs => ?_, fun hs => ?_⟩) (fun b s hs' hs => ?_)
  · obtain ⟨T, ys, hb, h1, _⟩ := hS _ hs
    exact h1 (hb.inj (h.recs b o ho).1).1
  · obtain ⟨T, ys, hb, _, h1, _⟩ := hS _ hs
    exact h1 (hb.inj (h.fld b o ho)).1
  · obtain ⟨T, ys, hb, _, _, h1⟩ := hS _ hs
    exact h1 (hb.inj (h.scx b s hs')).1
theorem Rep.empty (TR dl TC TX : Nat) (w : World) : Rep TR dl TC TX w (fun _ => none) (fun _ => none) := ⟨(fun _ _ h => by cases h), (fun _ _ h => by cases h), (fun _ _ _ _ h => by cases h), (fun _ _ h => by cases h), (fun _ _ h => by cases h), (fun _ _ h => by cases h)⟩
variable {TT ti B : Nat} {g : Option Nat} {ks ks' : List Int}
/-- The types of these blocks are none of a tape's. -/
structure Tys (TR TC TX TT ti : Nat) : Prop where
  r1 : TR ≠ TT
  r2 : TR ≠ ti
  c1 : TC ≠ TT
  c2 : TC ≠ ti
  x1 : TX ≠ TT
  x2 : TX ≠ ti
  rc : TR ≠ TC
  rx : TR ≠ TX
  cx : TC ≠ TX
theorem Rep.step (h : Rep TR dl TC TX w R X) (ht : Tys TR TC TX TT ti) (hg : GAt TT ti w B g ks) (hs : Step TT ti B g w w' ks' (fun _ => False)) : Rep TR dl TC TX w' R X :=
  ⟨fun b o ho => ⟨hs.blk hg (h.recs b o ho).1 ht.r1 ht.r2 id, (h.recs b o ho).2⟩, fun b o ho => hs.blk hg (h.fld b o ho) ht.c1 ht.c2 id, h.inj, fun b s hs' => hs.blk hg (h.scx b s hs') ht.x1 ht.x2 id, h.kf, h.ki⟩
/-- One record's fields have turned. -/
theorem Rep.setFields (h : Rep TR dl TC TX w R X) (ht : Tys TR TC TX TT ti) (hg : GAt TT ti w B g ks) {b : Nat} {o : RecO} (ho : R b = some o) (hs : Step TT ti B g w w' ks' (fun k => k = o.fb))
    {fs : List (Option Nat)} (hl : fs.length = o.fields.length) (hb : Blk w' o.fb TC (fs.map pv)) (hk : ∀ x, some x ∈ fs → (R x).isSome) : Rep TR dl TC TX w' (upd R b { o with fields := fs }) X := by
  have hne : ∀ {k T xs}, Blk w k T xs → T ≠ TC → k ≠ o.fb := fun hk hT e => by
    subst e
    exact hT (hk.inj (h.fld b o ho)).1
  refine ⟨fun k o' ho' => ?_, fun k o' ho' => ?_, fun k o' k' o'' h1 h2 he => ?_, fun k s hs' => ?_, fun k o' ho' x hx => ?_, fun k o' ho' x hx => ?_⟩
  · rcases upd_cases ho' with ⟨rfl, rfl⟩ | ⟨_, ho'⟩
    · obtain ⟨hb0, hl0⟩ := h.recs _ _ ho
      have hc : RecO.cells { o with fields := fs } = o.cells := by simp [RecO.cells, RecO.tail, hl]
      rw [hc]
      exact ⟨hs.blk hg hb0 ht.r1 ht.r2 (hne hb0 ht.rc), hl0⟩
    · obtain ⟨hb0, hl0⟩ := h.recs _ _ ho'
      exact ⟨hs.blk hg hb0 ht.r1 ht.r2 (hne hb0 ht.rc), hl0⟩
  · rcases upd_cases ho' with ⟨rfl, rfl⟩ | ⟨hkb, ho'⟩
    · exact hb
    · exact hs.blk hg (h.fld _ _ ho') ht.c1 ht.c2 (fun e => hkb (h.inj _ _ _ _ ho' ho e))
  · rcases upd_cases h1 with ⟨rfl, rfl⟩ | ⟨n1, j1⟩ <;> rcases upd_cases h2 with ⟨rfl, rfl⟩ | ⟨n2, j2⟩
    · rfl
    · exact h.inj _ _ _ _ ho j2 he
    · exact h.inj _ _ _ _ j1 ho he
    · exact h.inj _ _ _ _ j1 j2 he
  · exact hs.blk hg (h.scx _ _ hs') ht.x1 ht.x2 (hne (h.scx _ _ hs') ht.cx.symm)
  · have hs2 : ∀ x, (R x).isSome → (upd R b { o with fields := fs } x).isSome := fun x hx => by
      unfold upd; split <;> simp_all
    rcases upd_cases ho' with ⟨rfl, rfl⟩ | ⟨_, ho'⟩
    · exact hs2 x (hk x hx)
    · exact hs2 x (h.kf _ _ ho' x hx)
  · rcases upd_cases ho' with ⟨rfl, rfl⟩ | ⟨_, ho'⟩
    · exact h.ki _ _ ho x hx
    · exact h.ki _ _ ho' x hx
/-- One record's own block has turned: its info, or its mark. -/
theorem Rep.setRec (h : Rep TR dl TC TX w R X) (ht : Tys TR TC TX TT ti) (hg : GAt TT ti w B g ks) {b : Nat} {o : RecO} (ho : R b = some o) (hs : Step TT ti B g w w' ks' (fun k => k = b))
    {o' : RecO} (hd' : o'.data = o.data) (hfb : o'.fb = o.fb) (hfs : o'.fields = o.fields) (hb : Blk w' b TR o'.cells) (hk : Ok X o'.info) : Rep TR dl TC TX w' (upd R b o') X := by
  have hne : ∀ {k T xs}, Blk w k T xs → T ≠ TR → k ≠ b := fun hk hT e => by
    subst e
    exact hT (hk.inj (h.recs _ _ ho).1).1
  refine ⟨fun k o1 ho' => ?_, fun k o1 ho' => ?_, fun k o1 k' o2 h1 h2 he => ?_, fun k s hs' => ?_, fun k o1 ho' x hx => ?_, fun k o1 ho' x hx => ?_⟩
  · rcases upd_cases ho' with ⟨rfl, rfl⟩ | ⟨hkb, ho'⟩
    · exact ⟨hb, by rw [hd']; exact (h.recs _ _ ho).2⟩
    · exact ⟨hs.blk hg (h.recs _ _ ho').1 ht.r1 ht.r2 hkb, (h.recs _ _ ho').2⟩
  · rcases upd_cases ho' with ⟨rfl, rfl⟩ | ⟨hkb, ho'⟩
    · rw [hfb, hfs]
      exact hs.blk hg (h.fld _ _ ho) ht.c1 ht.c2 (hne (h.fld _ _ ho) ht.rc.symm)
    · exact hs.blk hg (h.fld _ _ ho') ht.c1 ht.c2 (hne (h.fld _ _ ho') ht.rc.symm)
  · rcases upd_cases h1 with ⟨rfl, rfl⟩ | ⟨n1, j1⟩ <;> rcases upd_cases h2 with ⟨rfl, rfl⟩ | ⟨n2, j2⟩
    · rfl
    · exact h.inj _ _ _ _ ho j2 (by rw [← hfb]; exact he)
    · exact h.inj _ _ _ _ j1 ho (by rw [← hfb]; exact he)
    · exact h.inj _ _ _ _ j1 j2 he
  · exact hs.blk hg (h.scx _ _ hs') ht.x1 ht.x2 (hne (h.scx _ _ hs') ht.rx.symm)
  · have hs2 : ∀ x, (R x).isSome → (upd R b o' x).isSome := fun x hx => by
      unfold upd; split <;> simp_all
    rcases upd_cases ho' with ⟨rfl, rfl⟩ | ⟨_, ho'⟩
    · rw [hfs] at hx; exact hs2 x (h.kf _ _ ho x hx)
    · exact hs2 x (h.kf _ _ ho' x hx)
  · rcases upd_cases ho' with ⟨rfl, rfl⟩ | ⟨_, ho'⟩
    · exact hk x hx
    · exact h.ki _ _ ho' x hx
/-- One SCX-record has turned. -/
theorem Rep.setScx (h : Rep TR dl TC TX w R X) (ht : Tys TR TC TX TT ti) (hg : GAt TT ti w B g ks) {b : Nat} {s : ScxO} (hso : X b = some s) (hs : Step TT ti B g w w' ks' (fun k => k = b))
    {s' : ScxO} (hb : Blk w' b TX s'.cells) : Rep TR dl TC TX w' R (upd X b s') := by
  have hne : ∀ {k T xs}, Blk w k T xs → T ≠ TX → k ≠ b := fun hk hT e => by
    subst e
    exact hT (hk.inj (h.scx _ _ hso)).1
  refine ⟨fun k o1 ho' => ⟨hs.blk hg (h.recs _ _ ho').1 ht.r1 ht.r2 (hne (h.recs _ _ ho').1 ht.rx), (h.recs _ _ ho').2⟩, fun k o1 ho' => hs.blk hg (h.fld _ _ ho') ht.c1 ht.c2 (hne (h.fld _ _ ho') ht.cx), h.inj, fun k s1 hs' => ?_, h.kf, fun k o1 ho' x hx => ?_⟩
  · rcases upd_cases hs' with ⟨rfl, rfl⟩ | ⟨hkb, hs'⟩
    · exact hb
    · exact hs.blk hg (h.scx _ _ hs') ht.x1 ht.x2 hkb
  · have := h.ki _ _ ho' x hx
    unfold upd
    split <;> simp_all
/-- A new record, with its own first SCX-record. -/
theorem Rep.addRec (h : Rep TR dl TC TX w R X) (hbel : Below w.heap.size w w') {b fb : Nat} {o : RecO} (hb : w.heap.size ≤ b) (hfb : w.heap.size ≤ o.fb) (hr : Blk w' b TR o.cells) (hd' : o.data.length = dl)
    (hf : Blk w' o.fb TC (o.fields.map pv)) (hk : ∀ x, some x ∈ o.fields → (R x).isSome) {xb : Nat} {s : ScxO} (hi : o.info = some xb) (hx : w.heap.size ≤ xb) (hs : Blk w' xb TX s.cells) :
    Rep TR dl TC TX w' (upd R b o) (upd X xb s) := by
  have h' := h.below hbel
  have old : ∀ {k o1}, R k = some o1 → k < w.heap.size ∧ o1.fb < w.heap.size := fun h1 => ⟨(h.recs _ _ h1).1.lt, (h.fld _ _ h1).lt⟩
  refine ⟨fun k o1 ho' => ?_, fun k o1 ho' => ?_, fun k o1 k' o2 h1 h2 he => ?_, fun k s1 hs' => ?_, fun k o1 ho' x hx => ?_, fun k o1 ho' x hx' => ?_⟩
  · rcases upd_cases ho' with ⟨rfl, rfl⟩ | ⟨_, ho'⟩
    · exact ⟨hr, hd'⟩
    · exact h'.recs _ _ ho'
  · rcases upd_cases ho' with ⟨rfl, rfl⟩ | ⟨_, ho'⟩
    · exact hf
    · exact h'.fld _ _ ho'
  · rcases upd_cases h1 with ⟨rfl, rfl⟩ | ⟨n1, j1⟩ <;> rcases upd_cases h2 with ⟨rfl, rfl⟩ | ⟨n2, j2⟩
    · rfl
    · have := (old j2).2; omega
    · have := (old j1).2; omega
    · exact h.inj _ _ _ _ j1 j2 he
  · rcases upd_cases hs' with ⟨rfl, rfl⟩ | ⟨_, hs'⟩
    · exact hs
    · exact h'.scx _ _ hs'
  · have hs2 : ∀ x, (R x).isSome → (upd R b o x).isSome := fun x hx => by
      unfold upd; split <;> simp_all
    rcases upd_cases ho' with ⟨rfl, rfl⟩ | ⟨_, ho'⟩
    · exact hs2 x (hk x hx)
    · exact hs2 x (h.kf _ _ ho' x hx)
  · rcases upd_cases ho' with ⟨rfl, rfl⟩ | ⟨_, ho'⟩
    · rw [hi] at hx'; cases hx'; simp [upd]
    · have := h.ki _ _ ho' x hx'
      unfold upd; split <;> simp_all
/-- A new SCX-record. -/
theorem Rep.addScx (h : Rep TR dl TC TX w R X) (hbel : Below w.heap.size w w') {xb : Nat} {s : ScxO} (hs : Blk w' xb TX s.cells) : Rep TR dl TC TX w' R (upd X xb s) := by
  have h' := h.below hbel
  refine ⟨h'.recs, h'.fld, h'.inj, fun k s1 hs' => ?_, h.kf, fun k o1 ho' x hx' => ?_⟩
  · rcases upd_cases hs' with ⟨rfl, rfl⟩ | ⟨_, hs'⟩
    · exact hs
    · exact h'.scx _ _ hs'
  · have := h.ki _ _ ho' x hx'
    unfold upd; split <;> simp_all
end
end Go.Proofs.YtphhdmopfmelbaaGreat

/- Data-records and SCX-records: each access by a gate. Written by mk.py. -/
namespace Go.Proofs.YtphhdmopfmelbaaGreat
open Go.RowKit Go.Proofs.YtphhdmopfmelbaaGreatW.PrintWords
set_option linter.unusedVariables false
set_option linter.unusedSimpArgs false

abbrev Repint := Rep 175 1 180 145
theorem tys_int : Tys 175 180 145 TT ti := ⟨by decide, by decide, by decide, by decide, by decide, by decide, by decide, by decide, by decide⟩

set_option maxHeartbeats 400000 in
theorem swing_int (B : Nat) (g : Option Nat) (ks : List Int) (R : Nat → Option RecO) (X : Nat → Option ScxO) (w : World) (h : Repint w R X) (hg : GAtI w B g ks) (hbB : B ≤ w.heap.size) (hl : ks.length ≤ 1000000000) (b : Nat) (o : RecO) (ho : R b = some o) (i : Int) (i0 : 0 ≤ i) (i1 : i < o.fields.length) (x y : Option Nat) (hx : Ok R x) (hy : Ok R y) :
    Calls Tryz.prog 75 #[pv (some b), gvI g, .int .i64 i, pv x, pv y] w fun e w' => e = .returned (.bool (decide (o.fields.getD i.toNat none = x))) ∧ StepI B g w w' (ks ++ [5]) (fun k => k = o.fb) ∧
      Repint w' (upd R b { o with fields := if o.fields.getD i.toNat none = x then o.fields.set i.toNat y else o.fields }) X := by
  have hc : w.cell? ⟨b, 1, none⟩ = some (.slice (some ⟨o.fb, 0, none⟩) o.fields.length o.fields.length) := h.cell ho 0
  have hlt : i.toNat < o.fields.length := by omega
  have hx0 : o.fields[i.toNat]? = some (o.fields.getD i.toNat none) := by simp [List.getD_eq_getElem?_getD, List.getElem?_eq_getElem hlt]
  have hx1 : (o.fields.map pv)[i.toNat]? = some (pv (o.fields.getD i.toNat none)) := by rw [List.getElem?_map, hx0]; rfl
  have C := cell_cas_Recordint B g ks o.fb i.toNat 180 _ w hg hbB hl (h.fld b o ho) (by decide) (by decide) _ x y hx1 (h.recPtr (h.okField ho hx0)) (h.recPtr hx) (h.recPtr hy)
  have HS : ∀ w', StepI B g w w' (ks ++ [5]) (fun k => k = o.fb) → Blk w' o.fb 180 (if o.fields.getD i.toNat none = x then (o.fields.map pv).set i.toNat (pv y) else o.fields.map pv) →
      Repint w' (upd R b { o with fields := if o.fields.getD i.toNat none = x then o.fields.set i.toNat y else o.fields }) X := fun w' hs hb => by
    refine h.setFields tys_int hg ho hs ?_ ?_ ?_
    · split <;> simp
    · split at hb
      · rw [if_pos ‹_›, List.map_set]; exact hb
      · rw [if_neg ‹_›]; exact hb
    · intro z hz
      split at hz
      · rcases List.mem_or_eq_of_mem_set hz with hz | hz
        · exact h.kf b o ho z hz
        · exact hy z hz.symm
      · exact h.kf b o ho z hz
  generalize o.fields.getD i.toNat none = p at *
  clear hx hx0 hx1 hy h hg
  show Calls Tryz.prog 75 #[.pointer (some ⟨b, 0, none⟩), gvI g, .int .i64 i, pv x, pv y] w _
  refine calls_hide fun Q HQ => ?_
  have HQ' := Lib.hid HQ
  clear HQ
  have HC := Lib.hid C
  have HS' := Lib.hid HS
  clear C HS
  go_enter Tryz.func75, Tryz.ntmps75
  go_wp2_with fail
  refine HC.out.mono ?_
  rintro e w1 ⟨rfl, H, hb⟩
  have H2 := Lib.hid (HS'.out w1 H hb)
  have H1 := Lib.hid H
  clear H HC HS' hb
  go_wp2
  exact HQ'.out _ _ ⟨rfl, H1.out, H2.out⟩

set_option maxHeartbeats 400000 in
theorem info_int (B : Nat) (g : Option Nat) (ks : List Int) (R : Nat → Option RecO) (X : Nat → Option ScxO) (w : World) (h : Repint w R X) (hg : GAtI w B g ks) (hbB : B ≤ w.heap.size) (hl : ks.length ≤ 1000000000) (b : Nat) (o : RecO) (ho : R b = some o) :
    Calls Tryz.prog 70 #[pv (some b), gvI g] w fun e w' => e = .returned (pv o.info) ∧ StepI B g w w' (ks ++ [1]) (fun _ => False) ∧ Repint w' R X := by
  have C := cell_load_Scxint B g ks b 2 175 _ w hg hbB hl (h.recs b o ho).1 (by decide) (by decide) o.info (h.at_ ho 1) (h.scxPtr (h.okInfo ho))
  have HS := fun w' hs => h.step tys_int hg (w' := w') (ks' := ks ++ [1]) hs
  clear h hg
  show Calls Tryz.prog 70 #[.pointer (some ⟨b, 0, none⟩), gvI g] w _
  have HC := Lib.hid C
  have HS' := Lib.hid HS
  clear C HS
  go_enter Tryz.func70, Tryz.ntmps70
  go_wp2_with fail
  refine HC.out.mono ?_
  rintro e w1 ⟨rfl, H⟩
  have H2 := Lib.hid (HS'.out w1 H)
  have H1 := Lib.hid H
  clear H HC HS'
  go_wp2
  go_ret
  exact ⟨rfl, H1.out, H2.out⟩

set_option maxHeartbeats 400000 in
theorem freeze_int (B : Nat) (g : Option Nat) (ks : List Int) (R : Nat → Option RecO) (X : Nat → Option ScxO) (w : World) (h : Repint w R X) (hg : GAtI w B g ks) (hbB : B ≤ w.heap.size) (hl : ks.length ≤ 1000000000) (b : Nat) (o : RecO) (ho : R b = some o) (x y : Option Nat) (hx : Ok X x) (hy : Ok X y) :
    Calls Tryz.prog 69 #[pv (some b), gvI g, pv x, pv y] w fun e w' => e = .returned (.bool (decide (o.info = x))) ∧ StepI B g w w' (ks ++ [5]) (fun k => k = b) ∧
      Repint w' (upd R b { o with info := if o.info = x then y else o.info }) X := by
  have C := cell_cas_Scxint B g ks b 2 175 _ w hg hbB hl (h.recs b o ho).1 (by decide) (by decide) o.info x y (h.at_ ho 1) (h.scxPtr (h.okInfo ho)) (h.scxPtr hx) (h.scxPtr hy)
  have HS : ∀ w', StepI B g w w' (ks ++ [5]) (fun k => k = b) → Blk w' b 175 (if o.info = x then o.cells.set 2 (pv y) else o.cells) →
      Repint w' (upd R b { o with info := if o.info = x then y else o.info }) X := fun w' hs hb => by
    refine h.setRec tys_int hg ho hs rfl rfl rfl ?_ ?_
    · split at hb
      · rw [if_pos ‹_›]
        rw [show 2 = 1 + 1 from rfl, o.set_tail (h.recs b o ho).2] at hb
        exact hb
      · rw [if_neg ‹_›]; exact hb
    · show Ok X (if o.info = x then y else o.info)
      split
      · exact hy
      · exact h.okInfo ho
  clear hx hy h hg
  show Calls Tryz.prog 69 #[.pointer (some ⟨b, 0, none⟩), gvI g, pv x, pv y] w _
  refine calls_hide fun Q HQ => ?_
  have HQ' := Lib.hid HQ
  clear HQ
  have HC := Lib.hid C
  have HS' := Lib.hid HS
  clear C HS
  go_enter Tryz.func69, Tryz.ntmps69
  go_wp2_with fail
  refine HC.out.mono ?_
  rintro e w1 ⟨rfl, H, hb⟩
  have H2 := Lib.hid (HS'.out w1 H hb)
  have H1 := Lib.hid H
  clear H HC HS' hb
  go_wp2
  exact HQ'.out _ _ ⟨rfl, H1.out, H2.out⟩

set_option maxHeartbeats 400000 in
theorem allfrozen_int (B : Nat) (g : Option Nat) (ks : List Int) (R : Nat → Option RecO) (X : Nat → Option ScxO) (w : World) (h : Repint w R X) (hg : GAtI w B g ks) (hbB : B ≤ w.heap.size) (hl : ks.length ≤ 1000000000) (b : Nat) (o : ScxO) (ho : X b = some o) :
    Calls Tryz.prog 71 #[pv (some b), gvI g] w fun e w' => e = .returned (.bool o.frozen) ∧ StepI B g w w' (ks ++ [1]) (fun _ => False) ∧ Repint w' R X := by
  have HS := fun w' hs => h.step tys_int hg (w' := w') (ks' := ks ++ [1]) hs
  have HS' := Lib.hid HS
  clear HS
  cases hm : o.frozen with
  | false =>
    have C := mark_load_false B g ks b 8 145 _ w hg hbB hl (h.scx b o ho) (by decide) (by decide) (by simp [RecO.tail, ScxO.cells, u32b, hm])
    have HC := Lib.hid C
    clear C h hg hm
    show Calls Tryz.prog 71 #[.pointer (some ⟨b, 0, none⟩), gvI g] w _
    go_enter Tryz.func71, Tryz.ntmps71
    go_wp2_with fail
    refine HC.out.mono ?_
    rintro e w1 ⟨rfl, H⟩
    have H2 := Lib.hid (HS'.out w1 H)
    have H1 := Lib.hid H
    clear H HC HS'
    go_wp2
    go_ret
    exact ⟨rfl, H1.out, H2.out⟩
  | true =>
    have C := mark_load_true B g ks b 8 145 _ w hg hbB hl (h.scx b o ho) (by decide) (by decide) (by simp [RecO.tail, ScxO.cells, u32b, hm])
    have HC := Lib.hid C
    clear C h hg hm
    show Calls Tryz.prog 71 #[.pointer (some ⟨b, 0, none⟩), gvI g] w _
    go_enter Tryz.func71, Tryz.ntmps71
    go_wp2_with fail
    refine HC.out.mono ?_
    rintro e w1 ⟨rfl, H⟩
    have H2 := Lib.hid (HS'.out w1 H)
    have H1 := Lib.hid H
    clear H HC HS'
    go_wp2
    go_ret
    exact ⟨rfl, H1.out, H2.out⟩

set_option maxHeartbeats 400000 in
theorem mark_int (B : Nat) (g : Option Nat) (ks : List Int) (R : Nat → Option RecO) (X : Nat → Option ScxO) (w : World) (h : Repint w R X) (hg : GAtI w B g ks) (hbB : B ≤ w.heap.size) (hl : ks.length ≤ 1000000000) (b : Nat) (o : RecO) (ho : R b = some o) :
    Calls Tryz.prog 74 #[pv (some b), gvI g] w fun e w' => e = .returned (.tuple #[]) ∧ StepI B g w w' (ks ++ [2]) (fun k => k = b) ∧ Repint w' (upd R b { o with mark := true }) X := by
  have C := mark_store_true B g ks b 3 175 _ w hg hbB hl (h.recs b o ho).1 (by decide) (by decide) _ (h.at_ ho 2)
  have HS : ∀ w', StepI B g w w' (ks ++ [2]) (fun k => k = b) → Blk w' b 175 (o.cells.set 3 (.int .u32 1)) → Repint w' (upd R b { o with mark := true }) X := fun w' hs hb => by
    refine h.setRec tys_int hg ho hs rfl rfl rfl ?_ (fun x e => h.ki b o ho x e)
    rw [show 3 = 1 + 2 from rfl, o.set_tail (h.recs b o ho).2] at hb
    exact hb
  have HC := Lib.hid C
  have HS' := Lib.hid HS
  clear C HS h hg
  show Calls Tryz.prog 74 #[.pointer (some ⟨b, 0, none⟩), gvI g] w _
  go_enter Tryz.func74, Tryz.ntmps74
  go_wp2_with fail
  refine HC.out.mono ?_
  rintro e w1 ⟨rfl, H, hb⟩
  have H2 := Lib.hid (HS'.out w1 H hb)
  have H1 := Lib.hid H
  clear H HC HS' hb
  go_wp2
  go_end0
  exact ⟨rfl, H1.out, H2.out⟩

set_option maxHeartbeats 400000 in
theorem commit_int (B : Nat) (g : Option Nat) (ks : List Int) (R : Nat → Option RecO) (X : Nat → Option ScxO) (w : World) (h : Repint w R X) (hg : GAtI w B g ks) (hbB : B ≤ w.heap.size) (hl : ks.length ≤ 1000000000) (b : Nat) (o : ScxO) (ho : X b = some o) :
    Calls Tryz.prog 76 #[pv (some b), gvI g] w fun e w' => e = .returned (.tuple #[]) ∧ StepI B g w w' (ks ++ [2]) (fun k => k = b) ∧ Repint w' R (upd X b { o with state := 1 }) := by
  have C := num_store B g ks b 7 145 _ w hg hbB hl (h.scx b o ho) (by decide) (by decide) 1 (by decide) (by decide) (.int .i64 o.state) rfl
  have HS : ∀ w', StepI B g w w' (ks ++ [2]) (fun k => k = b) → Blk w' b 145 (o.cells.set 7 (.int .i64 1)) → Repint w' R (upd X b { o with state := 1 }) := fun w' hs hb => by
    exact h.setScx tys_int hg ho hs hb
  have HC := Lib.hid C
  have HS' := Lib.hid HS
  clear C HS h hg
  show Calls Tryz.prog 76 #[.pointer (some ⟨b, 0, none⟩), gvI g] w _
  go_enter Tryz.func76, Tryz.ntmps76
  go_wp2_with fail
  refine HC.out.mono ?_
  rintro e w1 ⟨rfl, H, hb⟩
  have H2 := Lib.hid (HS'.out w1 H hb)
  have H1 := Lib.hid H
  clear H HC HS' hb
  go_wp2
  go_end0
  exact ⟨rfl, H1.out, H2.out⟩

set_option maxHeartbeats 400000 in
theorem abort_int (B : Nat) (g : Option Nat) (ks : List Int) (R : Nat → Option RecO) (X : Nat → Option ScxO) (w : World) (h : Repint w R X) (hg : GAtI w B g ks) (hbB : B ≤ w.heap.size) (hl : ks.length ≤ 1000000000) (b : Nat) (o : ScxO) (ho : X b = some o) :
    Calls Tryz.prog 72 #[pv (some b), gvI g] w fun e w' => e = .returned (.tuple #[]) ∧ StepI B g w w' (ks ++ [2]) (fun k => k = b) ∧ Repint w' R (upd X b { o with state := 2 }) := by
  have C := num_store B g ks b 7 145 _ w hg hbB hl (h.scx b o ho) (by decide) (by decide) 2 (by decide) (by decide) (.int .i64 o.state) rfl
  have HS : ∀ w', StepI B g w w' (ks ++ [2]) (fun k => k = b) → Blk w' b 145 (o.cells.set 7 (.int .i64 2)) → Repint w' R (upd X b { o with state := 2 }) := fun w' hs hb => by
    exact h.setScx tys_int hg ho hs hb
  have HC := Lib.hid C
  have HS' := Lib.hid HS
  clear C HS h hg
  show Calls Tryz.prog 72 #[.pointer (some ⟨b, 0, none⟩), gvI g] w _
  go_enter Tryz.func72, Tryz.ntmps72
  go_wp2_with fail
  refine HC.out.mono ?_
  rintro e w1 ⟨rfl, H, hb⟩
  have H2 := Lib.hid (HS'.out w1 H hb)
  have H1 := Lib.hid H
  clear H HC HS' hb
  go_wp2
  go_end0
  exact ⟨rfl, H1.out, H2.out⟩

set_option maxHeartbeats 400000 in
theorem setallfrozen_int (B : Nat) (g : Option Nat) (ks : List Int) (R : Nat → Option RecO) (X : Nat → Option ScxO) (w : World) (h : Repint w R X) (hg : GAtI w B g ks) (hbB : B ≤ w.heap.size) (hl : ks.length ≤ 1000000000) (b : Nat) (o : ScxO) (ho : X b = some o) :
    Calls Tryz.prog 73 #[pv (some b), gvI g] w fun e w' => e = .returned (.tuple #[]) ∧ StepI B g w w' (ks ++ [2]) (fun k => k = b) ∧ Repint w' R (upd X b { o with frozen := true }) := by
  have C := mark_store_true B g ks b 8 145 _ w hg hbB hl (h.scx b o ho) (by decide) (by decide) (u32b o.frozen) rfl
  have HS : ∀ w', StepI B g w w' (ks ++ [2]) (fun k => k = b) → Blk w' b 145 (o.cells.set 8 (.int .u32 1)) → Repint w' R (upd X b { o with frozen := true }) := fun w' hs hb => by
    exact h.setScx tys_int hg ho hs hb
  have HC := Lib.hid C
  have HS' := Lib.hid HS
  clear C HS h hg
  show Calls Tryz.prog 73 #[.pointer (some ⟨b, 0, none⟩), gvI g] w _
  go_enter Tryz.func73, Tryz.ntmps73
  go_wp2_with fail
  refine HC.out.mono ?_
  rintro e w1 ⟨rfl, H, hb⟩
  have H2 := Lib.hid (HS'.out w1 H hb)
  have H1 := Lib.hid H
  clear H HC HS' hb
  go_wp2
  go_end0
  exact ⟨rfl, H1.out, H2.out⟩

set_option maxHeartbeats 400000 in
theorem infon_int (R : Nat → Option RecO) (X : Nat → Option ScxO) (w : World) (h : Repint w R X)  (b : Nat) (o : RecO) (ho : R b = some o) :
    Calls Tryz.prog 70 #[pv (some b), .nilIface] w fun e w' => e = .returned (pv o.info) ∧ w = w' := by
  have C := cell_loadn_Scxint b 2 175 _ w (h.recs b o ho).1 o.info (h.at_ ho 1) (h.scxPtr (h.okInfo ho))
  have HC := Lib.hid C
  clear C h
  show Calls Tryz.prog 70 #[.pointer (some ⟨b, 0, none⟩), .nilIface] w _
  go_enter Tryz.func70, Tryz.ntmps70
  go_wp2_with fail
  refine HC.out.mono ?_
  rintro e w1 ⟨rfl, rfl⟩
  clear HC
  go_wp2
  go_ret
  exact ⟨rfl, rfl⟩

set_option maxHeartbeats 400000 in
theorem allfrozenn_false_int (R : Nat → Option RecO) (X : Nat → Option ScxO) (w : World) (h : Repint w R X)  (b : Nat) (o : ScxO) (ho : X b = some o) (hm : o.frozen = false) :
    Calls Tryz.prog 71 #[pv (some b), .nilIface] w fun e w' => e = .returned (.bool false) ∧ w = w' := by
  have C := mark_loadn_false b 8 145 _ w (h.scx b o ho) (by simp [ScxO.cells, u32b, hm])
  have HC := Lib.hid C
  clear C h hm
  show Calls Tryz.prog 71 #[.pointer (some ⟨b, 0, none⟩), .nilIface] w _
  go_enter Tryz.func71, Tryz.ntmps71
  go_wp2_with fail
  refine HC.out.mono ?_
  rintro e w1 ⟨rfl, rfl⟩
  clear HC
  go_wp2
  go_ret
  exact ⟨rfl, rfl⟩

set_option maxHeartbeats 400000 in
theorem allfrozenn_true_int (R : Nat → Option RecO) (X : Nat → Option ScxO) (w : World) (h : Repint w R X)  (b : Nat) (o : ScxO) (ho : X b = some o) (hm : o.frozen = true) :
    Calls Tryz.prog 71 #[pv (some b), .nilIface] w fun e w' => e = .returned (.bool true) ∧ w = w' := by
  have C := mark_loadn_true b 8 145 _ w (h.scx b o ho) (by simp [ScxO.cells, u32b, hm])
  have HC := Lib.hid C
  clear C h hm
  show Calls Tryz.prog 71 #[.pointer (some ⟨b, 0, none⟩), .nilIface] w _
  go_enter Tryz.func71, Tryz.ntmps71
  go_wp2_with fail
  refine HC.out.mono ?_
  rintro e w1 ⟨rfl, rfl⟩
  clear HC
  go_wp2
  go_ret
  exact ⟨rfl, rfl⟩

abbrev Repstring := Rep 80 1 85 93
theorem tys_string : Tys 80 85 93 TT ti := ⟨by decide, by decide, by decide, by decide, by decide, by decide, by decide, by decide, by decide⟩

set_option maxHeartbeats 400000 in
theorem get_string (B : Nat) (g : Option Nat) (ks : List Int) (R : Nat → Option RecO) (X : Nat → Option ScxO) (w : World) (h : Repstring w R X) (hg : GAtI w B g ks) (hbB : B ≤ w.heap.size) (hl : ks.length ≤ 1000000000) (b : Nat) (o : RecO) (ho : R b = some o) (i : Int) (i0 : 0 ≤ i) (i1 : i < o.fields.length) :
    Calls Tryz.prog 20 #[pv (some b), gvI g, .int .i64 i] w fun e w' => e = .returned (pv (o.fields.getD i.toNat none)) ∧ StepI B g w w' (ks ++ [1]) (fun _ => False) ∧ Repstring w' R X := by
  have hc : w.cell? ⟨b, 1, none⟩ = some (.slice (some ⟨o.fb, 0, none⟩) o.fields.length o.fields.length) := h.cell ho 0
  have hlt : i.toNat < o.fields.length := by omega
  have hx0 : o.fields[i.toNat]? = some (o.fields.getD i.toNat none) := by simp [List.getD_eq_getElem?_getD, List.getElem?_eq_getElem hlt]
  have hx : (o.fields.map pv)[i.toNat]? = some (pv (o.fields.getD i.toNat none)) := by rw [List.getElem?_map, hx0]; rfl
  have C := cell_load_Recordstring B g ks o.fb i.toNat 85 _ w hg hbB hl (h.fld b o ho) (by decide) (by decide) _ hx (h.recPtr (h.okField ho hx0))
  have HS := fun w' hs => h.step tys_string hg (w' := w') (ks' := ks ++ [1]) hs
  generalize o.fields.getD i.toNat none = p at *
  clear hx hx0 h hg
  show Calls Tryz.prog 20 #[.pointer (some ⟨b, 0, none⟩), gvI g, .int .i64 i] w _
  have HC := Lib.hid C
  have HS' := Lib.hid HS
  clear C HS
  go_enter Tryz.func20, Tryz.ntmps20
  go_wp2_with fail
  refine HC.out.mono ?_
  rintro e w1 ⟨rfl, H⟩
  have H2 := Lib.hid (HS'.out w1 H)
  have H1 := Lib.hid H
  clear H HC HS'
  go_wp2
  go_ret
  exact ⟨rfl, H1.out, H2.out⟩

set_option maxHeartbeats 400000 in
theorem swing_string (B : Nat) (g : Option Nat) (ks : List Int) (R : Nat → Option RecO) (X : Nat → Option ScxO) (w : World) (h : Repstring w R X) (hg : GAtI w B g ks) (hbB : B ≤ w.heap.size) (hl : ks.length ≤ 1000000000) (b : Nat) (o : RecO) (ho : R b = some o) (i : Int) (i0 : 0 ≤ i) (i1 : i < o.fields.length) (x y : Option Nat) (hx : Ok R x) (hy : Ok R y) :
    Calls Tryz.prog 8 #[pv (some b), gvI g, .int .i64 i, pv x, pv y] w fun e w' => e = .returned (.bool (decide (o.fields.getD i.toNat none = x))) ∧ StepI B g w w' (ks ++ [5]) (fun k => k = o.fb) ∧
      Repstring w' (upd R b { o with fields := if o.fields.getD i.toNat none = x then o.fields.set i.toNat y else o.fields }) X := by
  have hc : w.cell? ⟨b, 1, none⟩ = some (.slice (some ⟨o.fb, 0, none⟩) o.fields.length o.fields.length) := h.cell ho 0
  have hlt : i.toNat < o.fields.length := by omega
  have hx0 : o.fields[i.toNat]? = some (o.fields.getD i.toNat none) := by simp [List.getD_eq_getElem?_getD, List.getElem?_eq_getElem hlt]
  have hx1 : (o.fields.map pv)[i.toNat]? = some (pv (o.fields.getD i.toNat none)) := by rw [List.getElem?_map, hx0]; rfl
  have C := cell_cas_Recordstring B g ks o.fb i.toNat 85 _ w hg hbB hl (h.fld b o ho) (by decide) (by decide) _ x y hx1 (h.recPtr (h.okField ho hx0)) (h.recPtr hx) (h.recPtr hy)
  have HS : ∀ w', StepI B g w w' (ks ++ [5]) (fun k => k = o.fb) → Blk w' o.fb 85 (if o.fields.getD i.toNat none = x then (o.fields.map pv).set i.toNat (pv y) else o.fields.map pv) →
      Repstring w' (upd R b { o with fields := if o.fields.getD i.toNat none = x then o.fields.set i.toNat y else o.fields }) X := fun w' hs hb => by
    refine h.setFields tys_string hg ho hs ?_ ?_ ?_
    · split <;> simp
    · split at hb
      · rw [if_pos ‹_›, List.map_set]; exact hb
      · rw [if_neg ‹_›]; exact hb
    · intro z hz
      split at hz
      · rcases List.mem_or_eq_of_mem_set hz with hz | hz
        · exact h.kf b o ho z hz
        · exact hy z hz.symm
      · exact h.kf b o ho z hz
  generalize o.fields.getD i.toNat none = p at *
  clear hx hx0 hx1 hy h hg
  show Calls Tryz.prog 8 #[.pointer (some ⟨b, 0, none⟩), gvI g, .int .i64 i, pv x, pv y] w _
  refine calls_hide fun Q HQ => ?_
  have HQ' := Lib.hid HQ
  clear HQ
  have HC := Lib.hid C
  have HS' := Lib.hid HS
  clear C HS
  go_enter Tryz.func8, Tryz.ntmps8
  go_wp2_with fail
  refine HC.out.mono ?_
  rintro e w1 ⟨rfl, H, hb⟩
  have H2 := Lib.hid (HS'.out w1 H hb)
  have H1 := Lib.hid H
  clear H HC HS' hb
  go_wp2
  exact HQ'.out _ _ ⟨rfl, H1.out, H2.out⟩

set_option maxHeartbeats 400000 in
theorem info_string (B : Nat) (g : Option Nat) (ks : List Int) (R : Nat → Option RecO) (X : Nat → Option ScxO) (w : World) (h : Repstring w R X) (hg : GAtI w B g ks) (hbB : B ≤ w.heap.size) (hl : ks.length ≤ 1000000000) (b : Nat) (o : RecO) (ho : R b = some o) :
    Calls Tryz.prog 9 #[pv (some b), gvI g] w fun e w' => e = .returned (pv o.info) ∧ StepI B g w w' (ks ++ [1]) (fun _ => False) ∧ Repstring w' R X := by
  have C := cell_load_Scxstring B g ks b 2 80 _ w hg hbB hl (h.recs b o ho).1 (by decide) (by decide) o.info (h.at_ ho 1) (h.scxPtr (h.okInfo ho))
  have HS := fun w' hs => h.step tys_string hg (w' := w') (ks' := ks ++ [1]) hs
  clear h hg
  show Calls Tryz.prog 9 #[.pointer (some ⟨b, 0, none⟩), gvI g] w _
  have HC := Lib.hid C
  have HS' := Lib.hid HS
  clear C HS
  go_enter Tryz.func9, Tryz.ntmps9
  go_wp2_with fail
  refine HC.out.mono ?_
  rintro e w1 ⟨rfl, H⟩
  have H2 := Lib.hid (HS'.out w1 H)
  have H1 := Lib.hid H
  clear H HC HS'
  go_wp2
  go_ret
  exact ⟨rfl, H1.out, H2.out⟩

set_option maxHeartbeats 400000 in
theorem freeze_string (B : Nat) (g : Option Nat) (ks : List Int) (R : Nat → Option RecO) (X : Nat → Option ScxO) (w : World) (h : Repstring w R X) (hg : GAtI w B g ks) (hbB : B ≤ w.heap.size) (hl : ks.length ≤ 1000000000) (b : Nat) (o : RecO) (ho : R b = some o) (x y : Option Nat) (hx : Ok X x) (hy : Ok X y) :
    Calls Tryz.prog 34 #[pv (some b), gvI g, pv x, pv y] w fun e w' => e = .returned (.bool (decide (o.info = x))) ∧ StepI B g w w' (ks ++ [5]) (fun k => k = b) ∧
      Repstring w' (upd R b { o with info := if o.info = x then y else o.info }) X := by
  have C := cell_cas_Scxstring B g ks b 2 80 _ w hg hbB hl (h.recs b o ho).1 (by decide) (by decide) o.info x y (h.at_ ho 1) (h.scxPtr (h.okInfo ho)) (h.scxPtr hx) (h.scxPtr hy)
  have HS : ∀ w', StepI B g w w' (ks ++ [5]) (fun k => k = b) → Blk w' b 80 (if o.info = x then o.cells.set 2 (pv y) else o.cells) →
      Repstring w' (upd R b { o with info := if o.info = x then y else o.info }) X := fun w' hs hb => by
    refine h.setRec tys_string hg ho hs rfl rfl rfl ?_ ?_
    · split at hb
      · rw [if_pos ‹_›]
        rw [show 2 = 1 + 1 from rfl, o.set_tail (h.recs b o ho).2] at hb
        exact hb
      · rw [if_neg ‹_›]; exact hb
    · show Ok X (if o.info = x then y else o.info)
      split
      · exact hy
      · exact h.okInfo ho
  clear hx hy h hg
  show Calls Tryz.prog 34 #[.pointer (some ⟨b, 0, none⟩), gvI g, pv x, pv y] w _
  refine calls_hide fun Q HQ => ?_
  have HQ' := Lib.hid HQ
  clear HQ
  have HC := Lib.hid C
  have HS' := Lib.hid HS
  clear C HS
  go_enter Tryz.func34, Tryz.ntmps34
  go_wp2_with fail
  refine HC.out.mono ?_
  rintro e w1 ⟨rfl, H, hb⟩
  have H2 := Lib.hid (HS'.out w1 H hb)
  have H1 := Lib.hid H
  clear H HC HS' hb
  go_wp2
  exact HQ'.out _ _ ⟨rfl, H1.out, H2.out⟩

set_option maxHeartbeats 400000 in
theorem marked_string (B : Nat) (g : Option Nat) (ks : List Int) (R : Nat → Option RecO) (X : Nat → Option ScxO) (w : World) (h : Repstring w R X) (hg : GAtI w B g ks) (hbB : B ≤ w.heap.size) (hl : ks.length ≤ 1000000000) (b : Nat) (o : RecO) (ho : R b = some o) :
    Calls Tryz.prog 19 #[pv (some b), gvI g] w fun e w' => e = .returned (.bool o.mark) ∧ StepI B g w w' (ks ++ [1]) (fun _ => False) ∧ Repstring w' R X := by
  have HS := fun w' hs => h.step tys_string hg (w' := w') (ks' := ks ++ [1]) hs
  have HS' := Lib.hid HS
  clear HS
  cases hm : o.mark with
  | false =>
    have C := mark_load_false B g ks b 3 80 _ w hg hbB hl (h.recs b o ho).1 (by decide) (by decide) (by rw [show 3 = 1 + 2 from rfl, h.at_ ho 2]; simp [RecO.tail, ScxO.cells, u32b, hm])
    have HC := Lib.hid C
    clear C h hg hm
    show Calls Tryz.prog 19 #[.pointer (some ⟨b, 0, none⟩), gvI g] w _
    go_enter Tryz.func19, Tryz.ntmps19
    go_wp2_with fail
    refine HC.out.mono ?_
    rintro e w1 ⟨rfl, H⟩
    have H2 := Lib.hid (HS'.out w1 H)
    have H1 := Lib.hid H
    clear H HC HS'
    go_wp2
    go_ret
    exact ⟨rfl, H1.out, H2.out⟩
  | true =>
    have C := mark_load_true B g ks b 3 80 _ w hg hbB hl (h.recs b o ho).1 (by decide) (by decide) (by rw [show 3 = 1 + 2 from rfl, h.at_ ho 2]; simp [RecO.tail, ScxO.cells, u32b, hm])
    have HC := Lib.hid C
    clear C h hg hm
    show Calls Tryz.prog 19 #[.pointer (some ⟨b, 0, none⟩), gvI g] w _
    go_enter Tryz.func19, Tryz.ntmps19
    go_wp2_with fail
    refine HC.out.mono ?_
    rintro e w1 ⟨rfl, H⟩
    have H2 := Lib.hid (HS'.out w1 H)
    have H1 := Lib.hid H
    clear H HC HS'
    go_wp2
    go_ret
    exact ⟨rfl, H1.out, H2.out⟩

set_option maxHeartbeats 400000 in
theorem allfrozen_string (B : Nat) (g : Option Nat) (ks : List Int) (R : Nat → Option RecO) (X : Nat → Option ScxO) (w : World) (h : Repstring w R X) (hg : GAtI w B g ks) (hbB : B ≤ w.heap.size) (hl : ks.length ≤ 1000000000) (b : Nat) (o : ScxO) (ho : X b = some o) :
    Calls Tryz.prog 14 #[pv (some b), gvI g] w fun e w' => e = .returned (.bool o.frozen) ∧ StepI B g w w' (ks ++ [1]) (fun _ => False) ∧ Repstring w' R X := by
  have HS := fun w' hs => h.step tys_string hg (w' := w') (ks' := ks ++ [1]) hs
  have HS' := Lib.hid HS
  clear HS
  cases hm : o.frozen with
  | false =>
    have C := mark_load_false B g ks b 8 93 _ w hg hbB hl (h.scx b o ho) (by decide) (by decide) (by simp [RecO.tail, ScxO.cells, u32b, hm])
    have HC := Lib.hid C
    clear C h hg hm
    show Calls Tryz.prog 14 #[.pointer (some ⟨b, 0, none⟩), gvI g] w _
    go_enter Tryz.func14, Tryz.ntmps14
    go_wp2_with fail
    refine HC.out.mono ?_
    rintro e w1 ⟨rfl, H⟩
    have H2 := Lib.hid (HS'.out w1 H)
    have H1 := Lib.hid H
    clear H HC HS'
    go_wp2
    go_ret
    exact ⟨rfl, H1.out, H2.out⟩
  | true =>
    have C := mark_load_true B g ks b 8 93 _ w hg hbB hl (h.scx b o ho) (by decide) (by decide) (by simp [RecO.tail, ScxO.cells, u32b, hm])
    have HC := Lib.hid C
    clear C h hg hm
    show Calls Tryz.prog 14 #[.pointer (some ⟨b, 0, none⟩), gvI g] w _
    go_enter Tryz.func14, Tryz.ntmps14
    go_wp2_with fail
    refine HC.out.mono ?_
    rintro e w1 ⟨rfl, H⟩
    have H2 := Lib.hid (HS'.out w1 H)
    have H1 := Lib.hid H
    clear H HC HS'
    go_wp2
    go_ret
    exact ⟨rfl, H1.out, H2.out⟩

set_option maxHeartbeats 400000 in
theorem mark_string (B : Nat) (g : Option Nat) (ks : List Int) (R : Nat → Option RecO) (X : Nat → Option ScxO) (w : World) (h : Repstring w R X) (hg : GAtI w B g ks) (hbB : B ≤ w.heap.size) (hl : ks.length ≤ 1000000000) (b : Nat) (o : RecO) (ho : R b = some o) :
    Calls Tryz.prog 37 #[pv (some b), gvI g] w fun e w' => e = .returned (.tuple #[]) ∧ StepI B g w w' (ks ++ [2]) (fun k => k = b) ∧ Repstring w' (upd R b { o with mark := true }) X := by
  have C := mark_store_true B g ks b 3 80 _ w hg hbB hl (h.recs b o ho).1 (by decide) (by decide) _ (h.at_ ho 2)
  have HS : ∀ w', StepI B g w w' (ks ++ [2]) (fun k => k = b) → Blk w' b 80 (o.cells.set 3 (.int .u32 1)) → Repstring w' (upd R b { o with mark := true }) X := fun w' hs hb => by
    refine h.setRec tys_string hg ho hs rfl rfl rfl ?_ (fun x e => h.ki b o ho x e)
    rw [show 3 = 1 + 2 from rfl, o.set_tail (h.recs b o ho).2] at hb
    exact hb
  have HC := Lib.hid C
  have HS' := Lib.hid HS
  clear C HS h hg
  show Calls Tryz.prog 37 #[.pointer (some ⟨b, 0, none⟩), gvI g] w _
  go_enter Tryz.func37, Tryz.ntmps37
  go_wp2_with fail
  refine HC.out.mono ?_
  rintro e w1 ⟨rfl, H, hb⟩
  have H2 := Lib.hid (HS'.out w1 H hb)
  have H1 := Lib.hid H
  clear H HC HS' hb
  go_wp2
  go_end0
  exact ⟨rfl, H1.out, H2.out⟩

set_option maxHeartbeats 400000 in
theorem commit_string (B : Nat) (g : Option Nat) (ks : List Int) (R : Nat → Option RecO) (X : Nat → Option ScxO) (w : World) (h : Repstring w R X) (hg : GAtI w B g ks) (hbB : B ≤ w.heap.size) (hl : ks.length ≤ 1000000000) (b : Nat) (o : ScxO) (ho : X b = some o) :
    Calls Tryz.prog 38 #[pv (some b), gvI g] w fun e w' => e = .returned (.tuple #[]) ∧ StepI B g w w' (ks ++ [2]) (fun k => k = b) ∧ Repstring w' R (upd X b { o with state := 1 }) := by
  have C := num_store B g ks b 7 93 _ w hg hbB hl (h.scx b o ho) (by decide) (by decide) 1 (by decide) (by decide) (.int .i64 o.state) rfl
  have HS : ∀ w', StepI B g w w' (ks ++ [2]) (fun k => k = b) → Blk w' b 93 (o.cells.set 7 (.int .i64 1)) → Repstring w' R (upd X b { o with state := 1 }) := fun w' hs hb => by
    exact h.setScx tys_string hg ho hs hb
  have HC := Lib.hid C
  have HS' := Lib.hid HS
  clear C HS h hg
  show Calls Tryz.prog 38 #[.pointer (some ⟨b, 0, none⟩), gvI g] w _
  go_enter Tryz.func38, Tryz.ntmps38
  go_wp2_with fail
  refine HC.out.mono ?_
  rintro e w1 ⟨rfl, H, hb⟩
  have H2 := Lib.hid (HS'.out w1 H hb)
  have H1 := Lib.hid H
  clear H HC HS' hb
  go_wp2
  go_end0
  exact ⟨rfl, H1.out, H2.out⟩

set_option maxHeartbeats 400000 in
theorem abort_string (B : Nat) (g : Option Nat) (ks : List Int) (R : Nat → Option RecO) (X : Nat → Option ScxO) (w : World) (h : Repstring w R X) (hg : GAtI w B g ks) (hbB : B ≤ w.heap.size) (hl : ks.length ≤ 1000000000) (b : Nat) (o : ScxO) (ho : X b = some o) :
    Calls Tryz.prog 35 #[pv (some b), gvI g] w fun e w' => e = .returned (.tuple #[]) ∧ StepI B g w w' (ks ++ [2]) (fun k => k = b) ∧ Repstring w' R (upd X b { o with state := 2 }) := by
  have C := num_store B g ks b 7 93 _ w hg hbB hl (h.scx b o ho) (by decide) (by decide) 2 (by decide) (by decide) (.int .i64 o.state) rfl
  have HS : ∀ w', StepI B g w w' (ks ++ [2]) (fun k => k = b) → Blk w' b 93 (o.cells.set 7 (.int .i64 2)) → Repstring w' R (upd X b { o with state := 2 }) := fun w' hs hb => by
    exact h.setScx tys_string hg ho hs hb
  have HC := Lib.hid C
  have HS' := Lib.hid HS
  clear C HS h hg
  show Calls Tryz.prog 35 #[.pointer (some ⟨b, 0, none⟩), gvI g] w _
  go_enter Tryz.func35, Tryz.ntmps35
  go_wp2_with fail
  refine HC.out.mono ?_
  rintro e w1 ⟨rfl, H, hb⟩
  have H2 := Lib.hid (HS'.out w1 H hb)
  have H1 := Lib.hid H
  clear H HC HS' hb
  go_wp2
  go_end0
  exact ⟨rfl, H1.out, H2.out⟩

set_option maxHeartbeats 400000 in
theorem setallfrozen_string (B : Nat) (g : Option Nat) (ks : List Int) (R : Nat → Option RecO) (X : Nat → Option ScxO) (w : World) (h : Repstring w R X) (hg : GAtI w B g ks) (hbB : B ≤ w.heap.size) (hl : ks.length ≤ 1000000000) (b : Nat) (o : ScxO) (ho : X b = some o) :
    Calls Tryz.prog 36 #[pv (some b), gvI g] w fun e w' => e = .returned (.tuple #[]) ∧ StepI B g w w' (ks ++ [2]) (fun k => k = b) ∧ Repstring w' R (upd X b { o with frozen := true }) := by
  have C := mark_store_true B g ks b 8 93 _ w hg hbB hl (h.scx b o ho) (by decide) (by decide) (u32b o.frozen) rfl
  have HS : ∀ w', StepI B g w w' (ks ++ [2]) (fun k => k = b) → Blk w' b 93 (o.cells.set 8 (.int .u32 1)) → Repstring w' R (upd X b { o with frozen := true }) := fun w' hs hb => by
    exact h.setScx tys_string hg ho hs hb
  have HC := Lib.hid C
  have HS' := Lib.hid HS
  clear C HS h hg
  show Calls Tryz.prog 36 #[.pointer (some ⟨b, 0, none⟩), gvI g] w _
  go_enter Tryz.func36, Tryz.ntmps36
  go_wp2_with fail
  refine HC.out.mono ?_
  rintro e w1 ⟨rfl, H, hb⟩
  have H2 := Lib.hid (HS'.out w1 H hb)
  have H1 := Lib.hid H
  clear H HC HS' hb
  go_wp2
  go_end0
  exact ⟨rfl, H1.out, H2.out⟩

set_option maxHeartbeats 400000 in
theorem state_string (B : Nat) (g : Option Nat) (ks : List Int) (R : Nat → Option RecO) (X : Nat → Option ScxO) (w : World) (h : Repstring w R X) (hg : GAtI w B g ks) (hbB : B ≤ w.heap.size) (hl : ks.length ≤ 1000000000) (b : Nat) (o : ScxO) (ho : X b = some o) (n0 : 0 ≤ o.state) (n1 : o.state ≤ 1000) :
    Calls Tryz.prog 13 #[pv (some b), gvI g] w fun e w' => e = .returned (.int .i64 o.state) ∧ StepI B g w w' (ks ++ [1]) (fun _ => False) ∧ Repstring w' R X := by
  have C := num_load B g ks b 7 93 _ w hg hbB hl (h.scx b o ho) (by decide) (by decide) o.state n0 n1 rfl
  have HS := fun w' hs => h.step tys_string hg (w' := w') (ks' := ks ++ [1]) hs
  clear h hg
  show Calls Tryz.prog 13 #[.pointer (some ⟨b, 0, none⟩), gvI g] w _
  have HC := Lib.hid C
  have HS' := Lib.hid HS
  clear C HS
  go_enter Tryz.func13, Tryz.ntmps13
  go_wp2_with fail
  refine HC.out.mono ?_
  rintro e w1 ⟨rfl, H⟩
  have H2 := Lib.hid (HS'.out w1 H)
  have H1 := Lib.hid H
  clear H HC HS'
  go_wp2
  go_ret
  exact ⟨rfl, H1.out, H2.out⟩

set_option maxHeartbeats 400000 in
theorem getn_string (R : Nat → Option RecO) (X : Nat → Option ScxO) (w : World) (h : Repstring w R X)  (b : Nat) (o : RecO) (ho : R b = some o) (i : Int) (i0 : 0 ≤ i) (i1 : i < o.fields.length) :
    Calls Tryz.prog 20 #[pv (some b), .nilIface, .int .i64 i] w fun e w' => e = .returned (pv (o.fields.getD i.toNat none)) ∧ w = w' := by
  have hc : w.cell? ⟨b, 1, none⟩ = some (.slice (some ⟨o.fb, 0, none⟩) o.fields.length o.fields.length) := h.cell ho 0
  have hlt : i.toNat < o.fields.length := by omega
  have hx0 : o.fields[i.toNat]? = some (o.fields.getD i.toNat none) := by simp [List.getD_eq_getElem?_getD, List.getElem?_eq_getElem hlt]
  have hx : (o.fields.map pv)[i.toNat]? = some (pv (o.fields.getD i.toNat none)) := by rw [List.getElem?_map, hx0]; rfl
  have C := cell_loadn_Recordstring o.fb i.toNat 85 _ w (h.fld b o ho) _ hx (h.recPtr (h.okField ho hx0))
  generalize o.fields.getD i.toNat none = p at *
  have HC := Lib.hid C
  clear C h hx hx0
  show Calls Tryz.prog 20 #[.pointer (some ⟨b, 0, none⟩), .nilIface, .int .i64 i] w _
  go_enter Tryz.func20, Tryz.ntmps20
  go_wp2_with fail
  refine HC.out.mono ?_
  rintro e w1 ⟨rfl, rfl⟩
  clear HC
  go_wp2
  go_ret
  exact ⟨rfl, rfl⟩

set_option maxHeartbeats 400000 in
theorem infon_string (R : Nat → Option RecO) (X : Nat → Option ScxO) (w : World) (h : Repstring w R X)  (b : Nat) (o : RecO) (ho : R b = some o) :
    Calls Tryz.prog 9 #[pv (some b), .nilIface] w fun e w' => e = .returned (pv o.info) ∧ w = w' := by
  have C := cell_loadn_Scxstring b 2 80 _ w (h.recs b o ho).1 o.info (h.at_ ho 1) (h.scxPtr (h.okInfo ho))
  have HC := Lib.hid C
  clear C h
  show Calls Tryz.prog 9 #[.pointer (some ⟨b, 0, none⟩), .nilIface] w _
  go_enter Tryz.func9, Tryz.ntmps9
  go_wp2_with fail
  refine HC.out.mono ?_
  rintro e w1 ⟨rfl, rfl⟩
  clear HC
  go_wp2
  go_ret
  exact ⟨rfl, rfl⟩

set_option maxHeartbeats 400000 in
theorem staten_string (R : Nat → Option RecO) (X : Nat → Option ScxO) (w : World) (h : Repstring w R X)  (b : Nat) (o : ScxO) (ho : X b = some o) (n0 : 0 ≤ o.state) (n1 : o.state ≤ 1000) :
    Calls Tryz.prog 13 #[pv (some b), .nilIface] w fun e w' => e = .returned (.int .i64 o.state) ∧ w = w' := by
  have C := num_loadn b 7 93 _ w (h.scx b o ho) o.state n0 n1 rfl
  have HC := Lib.hid C
  clear C h
  show Calls Tryz.prog 13 #[.pointer (some ⟨b, 0, none⟩), .nilIface] w _
  go_enter Tryz.func13, Tryz.ntmps13
  go_wp2_with fail
  refine HC.out.mono ?_
  rintro e w1 ⟨rfl, rfl⟩
  clear HC
  go_wp2
  go_ret
  exact ⟨rfl, rfl⟩

set_option maxHeartbeats 400000 in
theorem markedn_false_string (R : Nat → Option RecO) (X : Nat → Option ScxO) (w : World) (h : Repstring w R X)  (b : Nat) (o : RecO) (ho : R b = some o) (hm : o.mark = false) :
    Calls Tryz.prog 19 #[pv (some b), .nilIface] w fun e w' => e = .returned (.bool false) ∧ w = w' := by
  have C := mark_loadn_false b 3 80 _ w (h.recs b o ho).1 (by rw [show 3 = 1 + 2 from rfl, h.at_ ho 2]; simp [RecO.tail, u32b, hm])
  have HC := Lib.hid C
  clear C h hm
  show Calls Tryz.prog 19 #[.pointer (some ⟨b, 0, none⟩), .nilIface] w _
  go_enter Tryz.func19, Tryz.ntmps19
  go_wp2_with fail
  refine HC.out.mono ?_
  rintro e w1 ⟨rfl, rfl⟩
  clear HC
  go_wp2
  go_ret
  exact ⟨rfl, rfl⟩

set_option maxHeartbeats 400000 in
theorem allfrozenn_false_string (R : Nat → Option RecO) (X : Nat → Option ScxO) (w : World) (h : Repstring w R X)  (b : Nat) (o : ScxO) (ho : X b = some o) (hm : o.frozen = false) :
    Calls Tryz.prog 14 #[pv (some b), .nilIface] w fun e w' => e = .returned (.bool false) ∧ w = w' := by
  have C := mark_loadn_false b 8 93 _ w (h.scx b o ho) (by simp [ScxO.cells, u32b, hm])
  have HC := Lib.hid C
  clear C h hm
  show Calls Tryz.prog 14 #[.pointer (some ⟨b, 0, none⟩), .nilIface] w _
  go_enter Tryz.func14, Tryz.ntmps14
  go_wp2_with fail
  refine HC.out.mono ?_
  rintro e w1 ⟨rfl, rfl⟩
  clear HC
  go_wp2
  go_ret
  exact ⟨rfl, rfl⟩

set_option maxHeartbeats 400000 in
theorem markedn_true_string (R : Nat → Option RecO) (X : Nat → Option ScxO) (w : World) (h : Repstring w R X)  (b : Nat) (o : RecO) (ho : R b = some o) (hm : o.mark = true) :
    Calls Tryz.prog 19 #[pv (some b), .nilIface] w fun e w' => e = .returned (.bool true) ∧ w = w' := by
  have C := mark_loadn_true b 3 80 _ w (h.recs b o ho).1 (by rw [show 3 = 1 + 2 from rfl, h.at_ ho 2]; simp [RecO.tail, u32b, hm])
  have HC := Lib.hid C
  clear C h hm
  show Calls Tryz.prog 19 #[.pointer (some ⟨b, 0, none⟩), .nilIface] w _
  go_enter Tryz.func19, Tryz.ntmps19
  go_wp2_with fail
  refine HC.out.mono ?_
  rintro e w1 ⟨rfl, rfl⟩
  clear HC
  go_wp2
  go_ret
  exact ⟨rfl, rfl⟩

set_option maxHeartbeats 400000 in
theorem allfrozenn_true_string (R : Nat → Option RecO) (X : Nat → Option ScxO) (w : World) (h : Repstring w R X)  (b : Nat) (o : ScxO) (ho : X b = some o) (hm : o.frozen = true) :
    Calls Tryz.prog 14 #[pv (some b), .nilIface] w fun e w' => e = .returned (.bool true) ∧ w = w' := by
  have C := mark_loadn_true b 8 93 _ w (h.scx b o ho) (by simp [ScxO.cells, u32b, hm])
  have HC := Lib.hid C
  clear C h hm
  show Calls Tryz.prog 14 #[.pointer (some ⟨b, 0, none⟩), .nilIface] w _
  go_enter Tryz.func14, Tryz.ntmps14
  go_wp2_with fail
  refine HC.out.mono ?_
  rintro e w1 ⟨rfl, rfl⟩
  clear HC
  go_wp2
  go_ret
  exact ⟨rfl, rfl⟩
end Go.Proofs.YtphhdmopfmelbaaGreat

/- slices.Clone, slices.Index at the types that are met. Written by mk.py. -/
namespace Go.Proofs.YtphhdmopfmelbaaGreat
open Go.RowKit Go.Proofs.YtphhdmopfmelbaaGreatW.PrintWords
set_option linter.unusedVariables false
set_option linter.unusedSimpArgs false

theorem cinfo_PRecordint : (Tryz.prog.info? 143).map (fun i => (i.zero, i.size, i.bytes)) = some (some (.pointer none), 1, 8) := by kernel_rfl
set_option maxHeartbeats 400000 in
theorem clone_nil_PRecordint (w : World) : Calls Tryz.prog 101 #[.slice none 0 0] w fun e w' => e = .returned (.slice none 0 0) ∧ w = w' := by
  have hn := fun a n c w => Lib.run_eql_slice_nil (P := Tryz.prog) w 117 143 a n c 0 0 Tryz.underlying117
  go_enter Tryz.func101, Tryz.ntmps101
  go_wp2
  go_ret
  exact ⟨rfl, rfl⟩
set_option maxHeartbeats 400000 in
theorem clone_PRecordint (ad : Addr) (n c : Nat) (us : List Value) (w : World) (hr : Row1 w (some ad) n us) (h1 : ∀ u ∈ us, u.oneCell' = true) (hl : n ≤ 1000000000000) :
    Calls Tryz.prog 101 #[.slice (some ad) n c] w fun e w' => ∃ v, e = .returned v ∧ w'.ownsRow w.heap.size 143 1 v n us ∧ ¬ v = .slice none 0 0 ∧ Below w.heap.size w w' := by
  have hn := fun a n c w => Lib.run_eql_slice_nil (P := Tryz.prog) w 117 143 a n c 0 0 Tryz.underlying117
  obtain ⟨i0, hi, hz0, hz1, hz2⟩ := info_parts cinfo_PRecordint
  have hlen : us.length = n * 1 := by have := hr.1; omega
  have hbase := World.ownsRow_made (base := w.heap.size) (e := 143) (size := 1) w #[] 0 (Nat.le_refl _) (by decide) rfl
  have hcells : ∀ j u, us[j]? = some u → (w.alloc (.cells #[] 143)).cell? (ad.add j) = some u := fun j u hu => by
    obtain ⟨ad', e, hc⟩ := hr.at_ hu
    cases e
    exact pw_cell_below ((Below.refl w.heap.size w).alloc (Nat.le_refl _) _) hc
  refine calls_hide fun Q HQ => ?_
  have HQ' := Lib.hid HQ
  have HL := Lib.hid hlen
  have HC := Lib.hid hcells
  have H1 := Lib.hid h1
  have HB := Lib.hid hbase
  clear HQ hlen hr hcells h1 hbase
  go_enter Tryz.func101, Tryz.ntmps101
  go_wp2_with (at_builtin; refine wpList_append_own _ rfl _ _ 117 rfl w.heap.size 143 i0 (.pointer none) 1 8 Tryz.underlying117 hi hz0 hz1 hz2 rfl (by decide) _ 0 [] rfl HB.out ad n c us rfl HL.out HC.out H1.out (by simp only [maxLen]; omega) (by omega) (by simp) ?_)
  intro v1 w1 hown hg hnil
  have hnn : ¬ v1 = .slice none 0 0 := hnil
  have H2 := Lib.hid (show w1.ownsRow w.heap.size 143 1 v1 n us by simpa using hown)
  have H3 := Lib.hid hnn
  have H4 := Lib.hid (((Below.refl w.heap.size w).alloc (Nat.le_refl _) _).grown hg (by simp) (fun k hk => by simp [Value.ownBlock] at hk; omega))
  clear hown hg hnil hnn HL HC H1 HB
  go_wp2
  exact HQ'.out _ _ ⟨_, rfl, H2.out, H3.out, H4.out⟩

theorem cinfo_PRecordstring : (Tryz.prog.info? 33).map (fun i => (i.zero, i.size, i.bytes)) = some (some (.pointer none), 1, 8) := by kernel_rfl
set_option maxHeartbeats 400000 in
theorem clone_nil_PRecordstring (w : World) : Calls Tryz.prog 31 #[.slice none 0 0] w fun e w' => e = .returned (.slice none 0 0) ∧ w = w' := by
  have hn := fun a n c w => Lib.run_eql_slice_nil (P := Tryz.prog) w 32 33 a n c 0 0 Tryz.underlying32
  go_enter Tryz.func31, Tryz.ntmps31
  go_wp2
  go_ret
  exact ⟨rfl, rfl⟩
set_option maxHeartbeats 400000 in
theorem clone_PRecordstring (ad : Addr) (n c : Nat) (us : List Value) (w : World) (hr : Row1 w (some ad) n us) (h1 : ∀ u ∈ us, u.oneCell' = true) (hl : n ≤ 1000000000000) :
    Calls Tryz.prog 31 #[.slice (some ad) n c] w fun e w' => ∃ v, e = .returned v ∧ w'.ownsRow w.heap.size 33 1 v n us ∧ ¬ v = .slice none 0 0 ∧ Below w.heap.size w w' := by
  have hn := fun a n c w => Lib.run_eql_slice_nil (P := Tryz.prog) w 32 33 a n c 0 0 Tryz.underlying32
  obtain ⟨i0, hi, hz0, hz1, hz2⟩ := info_parts cinfo_PRecordstring
  have hlen : us.length = n * 1 := by have := hr.1; omega
  have hbase := World.ownsRow_made (base := w.heap.size) (e := 33) (size := 1) w #[] 0 (Nat.le_refl _) (by decide) rfl
  have hcells : ∀ j u, us[j]? = some u → (w.alloc (.cells #[] 33)).cell? (ad.add j) = some u := fun j u hu => by
    obtain ⟨ad', e, hc⟩ := hr.at_ hu
    cases e
    exact pw_cell_below ((Below.refl w.heap.size w).alloc (Nat.le_refl _) _) hc
  refine calls_hide fun Q HQ => ?_
  have HQ' := Lib.hid HQ
  have HL := Lib.hid hlen
  have HC := Lib.hid hcells
  have H1 := Lib.hid h1
  have HB := Lib.hid hbase
  clear HQ hlen hr hcells h1 hbase
  go_enter Tryz.func31, Tryz.ntmps31
  go_wp2_with (at_builtin; refine wpList_append_own _ rfl _ _ 32 rfl w.heap.size 33 i0 (.pointer none) 1 8 Tryz.underlying32 hi hz0 hz1 hz2 rfl (by decide) _ 0 [] rfl HB.out ad n c us rfl HL.out HC.out H1.out (by simp only [maxLen]; omega) (by omega) (by simp) ?_)
  intro v1 w1 hown hg hnil
  have hnn : ¬ v1 = .slice none 0 0 := hnil
  have H2 := Lib.hid (show w1.ownsRow w.heap.size 33 1 v1 n us by simpa using hown)
  have H3 := Lib.hid hnn
  have H4 := Lib.hid (((Below.refl w.heap.size w).alloc (Nat.le_refl _) _).grown hg (by simp) (fun k hk => by simp [Value.ownBlock] at hk; omega))
  clear hown hg hnil hnn HL HC H1 HB
  go_wp2
  exact HQ'.out _ _ ⟨_, rfl, H2.out, H3.out, H4.out⟩

theorem cinfo_PScxint : (Tryz.prog.info? 116).map (fun i => (i.zero, i.size, i.bytes)) = some (some (.pointer none), 1, 8) := by kernel_rfl
set_option maxHeartbeats 400000 in
theorem clone_nil_PScxint (w : World) : Calls Tryz.prog 102 #[.slice none 0 0] w fun e w' => e = .returned (.slice none 0 0) ∧ w = w' := by
  have hn := fun a n c w => Lib.run_eql_slice_nil (P := Tryz.prog) w 118 116 a n c 0 0 Tryz.underlying118
  go_enter Tryz.func102, Tryz.ntmps102
  go_wp2
  go_ret
  exact ⟨rfl, rfl⟩
set_option maxHeartbeats 400000 in
theorem clone_PScxint (ad : Addr) (n c : Nat) (us : List Value) (w : World) (hr : Row1 w (some ad) n us) (h1 : ∀ u ∈ us, u.oneCell' = true) (hl : n ≤ 1000000000000) :
    Calls Tryz.prog 102 #[.slice (some ad) n c] w fun e w' => ∃ v, e = .returned v ∧ w'.ownsRow w.heap.size 116 1 v n us ∧ ¬ v = .slice none 0 0 ∧ Below w.heap.size w w' := by
  have hn := fun a n c w => Lib.run_eql_slice_nil (P := Tryz.prog) w 118 116 a n c 0 0 Tryz.underlying118
  obtain ⟨i0, hi, hz0, hz1, hz2⟩ := info_parts cinfo_PScxint
  have hlen : us.length = n * 1 := by have := hr.1; omega
  have hbase := World.ownsRow_made (base := w.heap.size) (e := 116) (size := 1) w #[] 0 (Nat.le_refl _) (by decide) rfl
  have hcells : ∀ j u, us[j]? = some u → (w.alloc (.cells #[] 116)).cell? (ad.add j) = some u := fun j u hu => by
    obtain ⟨ad', e, hc⟩ := hr.at_ hu
    cases e
    exact pw_cell_below ((Below.refl w.heap.size w).alloc (Nat.le_refl _) _) hc
  refine calls_hide fun Q HQ => ?_
  have HQ' := Lib.hid HQ
  have HL := Lib.hid hlen
  have HC := Lib.hid hcells
  have H1 := Lib.hid h1
  have HB := Lib.hid hbase
  clear HQ hlen hr hcells h1 hbase
  go_enter Tryz.func102, Tryz.ntmps102
  go_wp2_with (at_builtin; refine wpList_append_own _ rfl _ _ 118 rfl w.heap.size 116 i0 (.pointer none) 1 8 Tryz.underlying118 hi hz0 hz1 hz2 rfl (by decide) _ 0 [] rfl HB.out ad n c us rfl HL.out HC.out H1.out (by simp only [maxLen]; omega) (by omega) (by simp) ?_)
  intro v1 w1 hown hg hnil
  have hnn : ¬ v1 = .slice none 0 0 := hnil
  have H2 := Lib.hid (show w1.ownsRow w.heap.size 116 1 v1 n us by simpa using hown)
  have H3 := Lib.hid hnn
  have H4 := Lib.hid (((Below.refl w.heap.size w).alloc (Nat.le_refl _) _).grown hg (by simp) (fun k hk => by simp [Value.ownBlock] at hk; omega))
  clear hown hg hnil hnn HL HC H1 HB
  go_wp2
  exact HQ'.out _ _ ⟨_, rfl, H2.out, H3.out, H4.out⟩

theorem cinfo_PScxstring : (Tryz.prog.info? 40).map (fun i => (i.zero, i.size, i.bytes)) = some (some (.pointer none), 1, 8) := by kernel_rfl
set_option maxHeartbeats 400000 in
theorem clone_nil_PScxstring (w : World) : Calls Tryz.prog 32 #[.slice none 0 0] w fun e w' => e = .returned (.slice none 0 0) ∧ w = w' := by
  have hn := fun a n c w => Lib.run_eql_slice_nil (P := Tryz.prog) w 39 40 a n c 0 0 Tryz.underlying39
  go_enter Tryz.func32, Tryz.ntmps32
  go_wp2
  go_ret
  exact ⟨rfl, rfl⟩
set_option maxHeartbeats 400000 in
theorem clone_PScxstring (ad : Addr) (n c : Nat) (us : List Value) (w : World) (hr : Row1 w (some ad) n us) (h1 : ∀ u ∈ us, u.oneCell' = true) (hl : n ≤ 1000000000000) :
    Calls Tryz.prog 32 #[.slice (some ad) n c] w fun e w' => ∃ v, e = .returned v ∧ w'.ownsRow w.heap.size 40 1 v n us ∧ ¬ v = .slice none 0 0 ∧ Below w.heap.size w w' := by
  have hn := fun a n c w => Lib.run_eql_slice_nil (P := Tryz.prog) w 39 40 a n c 0 0 Tryz.underlying39
  obtain ⟨i0, hi, hz0, hz1, hz2⟩ := info_parts cinfo_PScxstring
  have hlen : us.length = n * 1 := by have := hr.1; omega
  have hbase := World.ownsRow_made (base := w.heap.size) (e := 40) (size := 1) w #[] 0 (Nat.le_refl _) (by decide) rfl
  have hcells : ∀ j u, us[j]? = some u → (w.alloc (.cells #[] 40)).cell? (ad.add j) = some u := fun j u hu => by
    obtain ⟨ad', e, hc⟩ := hr.at_ hu
    cases e
    exact pw_cell_below ((Below.refl w.heap.size w).alloc (Nat.le_refl _) _) hc
  refine calls_hide fun Q HQ => ?_
  have HQ' := Lib.hid HQ
  have HL := Lib.hid hlen
  have HC := Lib.hid hcells
  have H1 := Lib.hid h1
  have HB := Lib.hid hbase
  clear HQ hlen hr hcells h1 hbase
  go_enter Tryz.func32, Tryz.ntmps32
  go_wp2_with (at_builtin; refine wpList_append_own _ rfl _ _ 39 rfl w.heap.size 40 i0 (.pointer none) 1 8 Tryz.underlying39 hi hz0 hz1 hz2 rfl (by decide) _ 0 [] rfl HB.out ad n c us rfl HL.out HC.out H1.out (by simp only [maxLen]; omega) (by omega) (by simp) ?_)
  intro v1 w1 hown hg hnil
  have hnn : ¬ v1 = .slice none 0 0 := hnil
  have H2 := Lib.hid (show w1.ownsRow w.heap.size 40 1 v1 n us by simpa using hown)
  have H3 := Lib.hid hnn
  have H4 := Lib.hid (((Below.refl w.heap.size w).alloc (Nat.le_refl _) _).grown hg (by simp) (fun k hk => by simp [Value.ownBlock] at hk; omega))
  clear hown hg hnil hnn HL HC H1 HB
  go_wp2
  exact HQ'.out _ _ ⟨_, rfl, H2.out, H3.out, H4.out⟩

theorem cinfo_bool : (Tryz.prog.info? 4).map (fun i => (i.zero, i.size, i.bytes)) = some (some (.bool false), 1, 1) := by kernel_rfl
set_option maxHeartbeats 400000 in
theorem clone_nil_bool (w : World) : Calls Tryz.prog 33 #[.slice none 0 0] w fun e w' => e = .returned (.slice none 0 0) ∧ w = w' := by
  have hn := fun a n c w => Lib.run_eql_slice_nil (P := Tryz.prog) w 24 4 a n c 0 0 Tryz.underlying24
  go_enter Tryz.func33, Tryz.ntmps33
  go_wp2
  go_ret
  exact ⟨rfl, rfl⟩
set_option maxHeartbeats 400000 in
theorem clone_bool (ad : Addr) (n c : Nat) (us : List Value) (w : World) (hr : Row1 w (some ad) n us) (h1 : ∀ u ∈ us, u.oneCell' = true) (hl : n ≤ 1000000000000) :
    Calls Tryz.prog 33 #[.slice (some ad) n c] w fun e w' => ∃ v, e = .returned v ∧ w'.ownsRow w.heap.size 4 1 v n us ∧ ¬ v = .slice none 0 0 ∧ Below w.heap.size w w' := by
  have hn := fun a n c w => Lib.run_eql_slice_nil (P := Tryz.prog) w 24 4 a n c 0 0 Tryz.underlying24
  obtain ⟨i0, hi, hz0, hz1, hz2⟩ := info_parts cinfo_bool
  have hlen : us.length = n * 1 := by have := hr.1; omega
  have hbase := World.ownsRow_made (base := w.heap.size) (e := 4) (size := 1) w #[] 0 (Nat.le_refl _) (by decide) rfl
  have hcells : ∀ j u, us[j]? = some u → (w.alloc (.cells #[] 4)).cell? (ad.add j) = some u := fun j u hu => by
    obtain ⟨ad', e, hc⟩ := hr.at_ hu
    cases e
    exact pw_cell_below ((Below.refl w.heap.size w).alloc (Nat.le_refl _) _) hc
  refine calls_hide fun Q HQ => ?_
  have HQ' := Lib.hid HQ
  have HL := Lib.hid hlen
  have HC := Lib.hid hcells
  have H1 := Lib.hid h1
  have HB := Lib.hid hbase
  clear HQ hlen hr hcells h1 hbase
  go_enter Tryz.func33, Tryz.ntmps33
  go_wp2_with (at_builtin; refine wpList_append_own _ rfl _ _ 24 rfl w.heap.size 4 i0 (.bool false) 1 1 Tryz.underlying24 hi hz0 hz1 hz2 rfl (by decide) _ 0 [] rfl HB.out ad n c us rfl HL.out HC.out H1.out (by simp only [maxLen]; omega) (by omega) (by simp) ?_)
  intro v1 w1 hown hg hnil
  have hnn : ¬ v1 = .slice none 0 0 := hnil
  have H2 := Lib.hid (show w1.ownsRow w.heap.size 4 1 v1 n us by simpa using hown)
  have H3 := Lib.hid hnn
  have H4 := Lib.hid (((Below.refl w.heap.size w).alloc (Nat.le_refl _) _).grown hg (by simp) (fun k hk => by simp [Value.ownBlock] at hk; omega))
  clear hown hg hnil hnn HL HC H1 HB
  go_wp2
  exact HQ'.out _ _ ⟨_, rfl, H2.out, H3.out, H4.out⟩

theorem cinfo_int : (Tryz.prog.info? 3).map (fun i => (i.zero, i.size, i.bytes)) = some (some (.int .i64 0), 1, 8) := by kernel_rfl
set_option maxHeartbeats 400000 in
theorem clone_nil_int (w : World) : Calls Tryz.prog 45 #[.slice none 0 0] w fun e w' => e = .returned (.slice none 0 0) ∧ w = w' := by
  have hn := fun a n c w => Lib.run_eql_slice_nil (P := Tryz.prog) w 23 3 a n c 0 0 Tryz.underlying23
  go_enter Tryz.func45, Tryz.ntmps45
  go_wp2
  go_ret
  exact ⟨rfl, rfl⟩
set_option maxHeartbeats 400000 in
theorem clone_int (ad : Addr) (n c : Nat) (us : List Value) (w : World) (hr : Row1 w (some ad) n us) (h1 : ∀ u ∈ us, u.oneCell' = true) (hl : n ≤ 1000000000000) :
    Calls Tryz.prog 45 #[.slice (some ad) n c] w fun e w' => ∃ v, e = .returned v ∧ w'.ownsRow w.heap.size 3 1 v n us ∧ ¬ v = .slice none 0 0 ∧ Below w.heap.size w w' := by
  have hn := fun a n c w => Lib.run_eql_slice_nil (P := Tryz.prog) w 23 3 a n c 0 0 Tryz.underlying23
  obtain ⟨i0, hi, hz0, hz1, hz2⟩ := info_parts cinfo_int
  have hlen : us.length = n * 1 := by have := hr.1; omega
  have hbase := World.ownsRow_made (base := w.heap.size) (e := 3) (size := 1) w #[] 0 (Nat.le_refl _) (by decide) rfl
  have hcells : ∀ j u, us[j]? = some u → (w.alloc (.cells #[] 3)).cell? (ad.add j) = some u := fun j u hu => by
    obtain ⟨ad', e, hc⟩ := hr.at_ hu
    cases e
    exact pw_cell_below ((Below.refl w.heap.size w).alloc (Nat.le_refl _) _) hc
  refine calls_hide fun Q HQ => ?_
  have HQ' := Lib.hid HQ
  have HL := Lib.hid hlen
  have HC := Lib.hid hcells
  have H1 := Lib.hid h1
  have HB := Lib.hid hbase
  clear HQ hlen hr hcells h1 hbase
  go_enter Tryz.func45, Tryz.ntmps45
  go_wp2_with (at_builtin; refine wpList_append_own _ rfl _ _ 23 rfl w.heap.size 3 i0 (.int .i64 0) 1 8 Tryz.underlying23 hi hz0 hz1 hz2 rfl (by decide) _ 0 [] rfl HB.out ad n c us rfl HL.out HC.out H1.out (by simp only [maxLen]; omega) (by omega) (by simp) ?_)
  intro v1 w1 hown hg hnil
  have hnn : ¬ v1 = .slice none 0 0 := hnil
  have H2 := Lib.hid (show w1.ownsRow w.heap.size 3 1 v1 n us by simpa using hown)
  have H3 := Lib.hid hnn
  have H4 := Lib.hid (((Below.refl w.heap.size w).alloc (Nat.le_refl _) _).grown hg (by simp) (fun k hk => by simp [Value.ownBlock] at hk; omega))
  clear hown hg hnil hnn HL HC H1 HB
  go_wp2
  exact HQ'.out _ _ ⟨_, rfl, H2.out, H3.out, H4.out⟩

theorem clone_any_PRecordint (A : Option Addr) (n c : Nat) (us : List Value) (w : World) (hA : A = none → n = 0 ∧ c = 0) (hr : Row1 w A n us) (h1 : ∀ u ∈ us, u.oneCell' = true) (hl : n ≤ 1000000000000) :
    Calls Tryz.prog 101 #[.slice A n c] w fun e w' => ∃ A' c', e = .returned (.slice A' n c') ∧ w'.ownsRow w.heap.size 143 1 (.slice A' n c') n us ∧ (A' = none → n = 0 ∧ c' = 0) ∧ (A' = none ↔ A = none) ∧ Below w.heap.size w w' := by
  cases A with
  | none =>
    obtain ⟨rfl, rfl⟩ := hA rfl
    have hus : us = [] := List.eq_nil_of_length_eq_zero hr.1
    subst hus
    refine (clone_nil_PRecordint w).mono ?_
    rintro e w' ⟨rfl, rfl⟩
    exact ⟨none, 0, rfl, World.ownsRow_nil _ _ _ _, fun _ => ⟨rfl, rfl⟩, Iff.rfl, Below.refl _ _⟩
  | some ad =>
    refine (clone_PRecordint ad n c us w hr h1 hl).mono ?_
    rintro e w' ⟨v, rfl, ho, hn, hb⟩
    obtain ⟨b, c', rest, rfl, _, _, _⟩ := owns_blk ho hn
    exact ⟨_, c', rfl, ho, (fun e => by cases e), (by simp), hb⟩

theorem clone_any_PRecordstring (A : Option Addr) (n c : Nat) (us : List Value) (w : World) (hA : A = none → n = 0 ∧ c = 0) (hr : Row1 w A n us) (h1 : ∀ u ∈ us, u.oneCell' = true) (hl : n ≤ 1000000000000) :
    Calls Tryz.prog 31 #[.slice A n c] w fun e w' => ∃ A' c', e = .returned (.slice A' n c') ∧ w'.ownsRow w.heap.size 33 1 (.slice A' n c') n us ∧ (A' = none → n = 0 ∧ c' = 0) ∧ (A' = none ↔ A = none) ∧ Below w.heap.size w w' := by
  cases A with
  | none =>
    obtain ⟨rfl, rfl⟩ := hA rfl
    have hus : us = [] := List.eq_nil_of_length_eq_zero hr.1
    subst hus
    refine (clone_nil_PRecordstring w).mono ?_
    rintro e w' ⟨rfl, rfl⟩
    exact ⟨none, 0, rfl, World.ownsRow_nil _ _ _ _, fun _ => ⟨rfl, rfl⟩, Iff.rfl, Below.refl _ _⟩
  | some ad =>
    refine (clone_PRecordstring ad n c us w hr h1 hl).mono ?_
    rintro e w' ⟨v, rfl, ho, hn, hb⟩
    obtain ⟨b, c', rest, rfl, _, _, _⟩ := owns_blk ho hn
    exact ⟨_, c', rfl, ho, (fun e => by cases e), (by simp), hb⟩

theorem clone_any_PScxint (A : Option Addr) (n c : Nat) (us : List Value) (w : World) (hA : A = none → n = 0 ∧ c = 0) (hr : Row1 w A n us) (h1 : ∀ u ∈ us, u.oneCell' = true) (hl : n ≤ 1000000000000) :
    Calls Tryz.prog 102 #[.slice A n c] w fun e w' => ∃ A' c', e = .returned (.slice A' n c') ∧ w'.ownsRow w.heap.size 116 1 (.slice A' n c') n us ∧ (A' = none → n = 0 ∧ c' = 0) ∧ (A' = none ↔ A = none) ∧ Below w.heap.size w w' := by
  cases A with
  | none =>
    obtain ⟨rfl, rfl⟩ := hA rfl
    have hus : us = [] := List.eq_nil_of_length_eq_zero hr.1
    subst hus
    refine (clone_nil_PScxint w).mono ?_
    rintro e w' ⟨rfl, rfl⟩
    exact ⟨none, 0, rfl, World.ownsRow_nil _ _ _ _, fun _ => ⟨rfl, rfl⟩, Iff.rfl, Below.refl _ _⟩
  | some ad =>
    refine (clone_PScxint ad n c us w hr h1 hl).mono ?_
    rintro e w' ⟨v, rfl, ho, hn, hb⟩
    obtain ⟨b, c', rest, rfl, _, _, _⟩ := owns_blk ho hn
    exact ⟨_, c', rfl, ho, (fun e => by cases e), (by simp), hb⟩

theorem clone_any_PScxstring (A : Option Addr) (n c : Nat) (us : List Value) (w : World) (hA : A = none → n = 0 ∧ c = 0) (hr : Row1 w A n us) (h1 : ∀ u ∈ us, u.oneCell' = true) (hl : n ≤ 1000000000000) :
    Calls Tryz.prog 32 #[.slice A n c] w fun e w' => ∃ A' c', e = .returned (.slice A' n c') ∧ w'.ownsRow w.heap.size 40 1 (.slice A' n c') n us ∧ (A' = none → n = 0 ∧ c' = 0) ∧ (A' = none ↔ A = none) ∧ Below w.heap.size w w' := by
  cases A with
  | none =>
    obtain ⟨rfl, rfl⟩ := hA rfl
    have hus : us = [] := List.eq_nil_of_length_eq_zero hr.1
    subst hus
    refine (clone_nil_PScxstring w).mono ?_
    rintro e w' ⟨rfl, rfl⟩
    exact ⟨none, 0, rfl, World.ownsRow_nil _ _ _ _, fun _ => ⟨rfl, rfl⟩, Iff.rfl, Below.refl _ _⟩
  | some ad =>
    refine (clone_PScxstring ad n c us w hr h1 hl).mono ?_
    rintro e w' ⟨v, rfl, ho, hn, hb⟩
    obtain ⟨b, c', rest, rfl, _, _, _⟩ := owns_blk ho hn
    exact ⟨_, c', rfl, ho, (fun e => by cases e), (by simp), hb⟩

theorem clone_any_bool (A : Option Addr) (n c : Nat) (us : List Value) (w : World) (hA : A = none → n = 0 ∧ c = 0) (hr : Row1 w A n us) (h1 : ∀ u ∈ us, u.oneCell' = true) (hl : n ≤ 1000000000000) :
    Calls Tryz.prog 33 #[.slice A n c] w fun e w' => ∃ A' c', e = .returned (.slice A' n c') ∧ w'.ownsRow w.heap.size 4 1 (.slice A' n c') n us ∧ (A' = none → n = 0 ∧ c' = 0) ∧ (A' = none ↔ A = none) ∧ Below w.heap.size w w' := by
  cases A with
  | none =>
    obtain ⟨rfl, rfl⟩ := hA rfl
    have hus : us = [] := List.eq_nil_of_length_eq_zero hr.1
    subst hus
    refine (clone_nil_bool w).mono ?_
    rintro e w' ⟨rfl, rfl⟩
    exact ⟨none, 0, rfl, World.ownsRow_nil _ _ _ _, fun _ => ⟨rfl, rfl⟩, Iff.rfl, Below.refl _ _⟩
  | some ad =>
    refine (clone_bool ad n c us w hr h1 hl).mono ?_
    rintro e w' ⟨v, rfl, ho, hn, hb⟩
    obtain ⟨b, c', rest, rfl, _, _, _⟩ := owns_blk ho hn
    exact ⟨_, c', rfl, ho, (fun e => by cases e), (by simp), hb⟩

theorem clone_any_int (A : Option Addr) (n c : Nat) (us : List Value) (w : World) (hA : A = none → n = 0 ∧ c = 0) (hr : Row1 w A n us) (h1 : ∀ u ∈ us, u.oneCell' = true) (hl : n ≤ 1000000000000) :
    Calls Tryz.prog 45 #[.slice A n c] w fun e w' => ∃ A' c', e = .returned (.slice A' n c') ∧ w'.ownsRow w.heap.size 3 1 (.slice A' n c') n us ∧ (A' = none → n = 0 ∧ c' = 0) ∧ (A' = none ↔ A = none) ∧ Below w.heap.size w w' := by
  cases A with
  | none =>
    obtain ⟨rfl, rfl⟩ := hA rfl
    have hus : us = [] := List.eq_nil_of_length_eq_zero hr.1
    subst hus
    refine (clone_nil_int w).mono ?_
    rintro e w' ⟨rfl, rfl⟩
    exact ⟨none, 0, rfl, World.ownsRow_nil _ _ _ _, fun _ => ⟨rfl, rfl⟩, Iff.rfl, Below.refl _ _⟩
  | some ad =>
    refine (clone_int ad n c us w hr h1 hl).mono ?_
    rintro e w' ⟨v, rfl, ho, hn, hb⟩
    obtain ⟨b, c', rest, rfl, _, _, _⟩ := owns_blk ho hn
    exact ⟨_, c', rfl, ho, (fun e => by cases e), (by simp), hb⟩
end Go.Proofs.YtphhdmopfmelbaaGreat
