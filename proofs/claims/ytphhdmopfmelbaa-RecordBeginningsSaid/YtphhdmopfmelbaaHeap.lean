/-
  Data-records and SCX-records in memory, by the blocks at which they stand. No program in sight.
-/
import Derived.Test.YtphhdmopfmelbaaBase
namespace Go.Proofs.Ytphhdmopfmelbaa
open Go.RowKit
set_option linter.unusedVariables false

/-- A data-record: what it holds, the block of its fields, its fields' records (blocks), its info, its mark. -/
structure RecO where
  data : List Value
  fb : Nat
  fields : List (Option Nat)
  info : Option Nat
  mark : Bool
def u32b (b : Bool) : Value := .int .u32 (if b then 1 else 0)
def RecO.tail (o : RecO) : List Value := [.slice (some ⟨o.fb, 0, none⟩) o.fields.length o.fields.length, pv o.info, u32b o.mark]
def RecO.cells (o : RecO) : List Value := o.data ++ o.tail
/-- An SCX-record: its three slices as values, where its field is, from what to what, its state, whether all is frozen. -/
structure ScxO where
  sv : Value
  si : Value
  sf : Value
  at_ : Int
  fld : Int
  old : Option Nat
  new : Option Nat
  state : Int
  frozen : Bool
def ScxO.cells (s : ScxO) : List Value := [s.sv, s.si, s.sf, .int .i64 s.at_, .int .i64 s.fld, pv s.old, pv s.new, .int .i64 s.state, u32b s.frozen]

/-- One place of a map is another. -/
def upd {α : Type} (R : Nat → Option α) (b : Nat) (o : α) : Nat → Option α := fun k => if k = b then some o else R k
theorem upd_self {α : Type} (R : Nat → Option α) (b : Nat) (o : α) : upd R b o b = some o := by simp [upd]
theorem upd_ne {α : Type} (R : Nat → Option α) {b k : Nat} (o : α) (h : k ≠ b) : upd R b o k = R k := by simp [upd, h]
theorem upd_cases {α : Type} {R : Nat → Option α} {b k : Nat} {o o' : α} (h : upd R b o k = some o') : (k = b ∧ o' = o) ∨ (k ≠ b ∧ R k = some o') := by
  unfold upd at h
  split at h
  · exact .inl ⟨‹_›, (Option.some.inj h).symm⟩
  · exact .inr ⟨‹_›, h⟩

/-- The memory holds these data-records and SCX-records. TR: the record's type, dl: how many cells its contents have; TC: the fields' cells' type; TX: the SCX-record's type. -/
structure Rep (TR dl TC TX : Nat) (w : World) (R : Nat → Option RecO) (X : Nat → Option ScxO) : Prop where
  recs : ∀ b o, R b = some o → Blk w b TR o.cells ∧ o.data.length = dl
  fld : ∀ b o, R b = some o → Blk w o.fb TC (o.fields.map pv)
  inj : ∀ b o b' o', R b = some o → R b' = some o' → o.fb = o'.fb → b = b'
  scx : ∀ b s, X b = some s → Blk w b TX s.cells
  kf : ∀ b o, R b = some o → ∀ x, some x ∈ o.fields → (R x).isSome
  ki : ∀ b o, R b = some o → ∀ x, o.info = some x → (X x).isSome

/-- x is nil, or one of R. -/
def Ok {α : Type} (R : Nat → Option α) (x : Option Nat) : Prop := ∀ b, x = some b → (R b).isSome
theorem Ok.none {α : Type} (R : Nat → Option α) : Ok R none := fun _ h => by cases h
theorem Ok.of {α : Type} {R : Nat → Option α} {b : Nat} {o : α} (h : R b = some o) : Ok R (some b) := fun b' e => by cases e; simp [h]
theorem Ok.upd {α : Type} {R : Nat → Option α} {x : Option Nat} (h : Ok R x) (b : Nat) (o : α) : Ok (upd R b o) x := fun b' e => by
  have := h b' e
  unfold Go.Proofs.Ytphhdmopfmelbaa.upd
  split <;> simp_all

section
variable {TR dl TC TX : Nat} {w w' : World} {R : Nat → Option RecO} {X : Nat → Option ScxO}
theorem RecO.cells_length (o : RecO) : o.cells.length = o.data.length + 3 := by simp [RecO.cells, RecO.tail]
theorem Rep.recPtr (h : Rep TR dl TC TX w R X) {x : Option Nat} (hx : Ok R x) : PtrTo TR (dl + 3) w x := fun b e => by
  obtain ⟨o, ho⟩ := Option.isSome_iff_exists.1 (hx b e)
  obtain ⟨hb, hl⟩ := h.recs b o ho
  exact ⟨_, hb, by rw [RecO.cells_length, hl]⟩
theorem Rep.scxPtr (h : Rep TR dl TC TX w R X) {x : Option Nat} (hx : Ok X x) : PtrTo TX 9 w x := fun b e => by
  obtain ⟨s, hs⟩ := Option.isSome_iff_exists.1 (hx b e)
  exact ⟨_, h.scx b s hs, rfl⟩
theorem Rep.okField (h : Rep TR dl TC TX w R X) {b : Nat} {o : RecO} (ho : R b = some o) {i : Nat} {p : Option Nat} (hp : o.fields[i]? = some p) : Ok R p := fun x e => by
  subst e
  exact h.kf b o ho x (List.mem_of_getElem? hp)
theorem Rep.okInfo (h : Rep TR dl TC TX w R X) {b : Nat} {o : RecO} (ho : R b = some o) : Ok X o.info := fun x e => h.ki b o ho x e
/-- The cells of a record. -/
theorem Rep.cell (h : Rep TR dl TC TX w R X) {b : Nat} {o : RecO} (ho : R b = some o) (j : Nat) : w.cell? ⟨b, dl + j, none⟩ = o.tail[j]? := by
  obtain ⟨hb, hl⟩ := h.recs b o ho
  rw [hb.cell, ← hl, RecO.cells, List.getElem?_append_right (by omega)]
  congr 1; omega
theorem Rep.at_ (h : Rep TR dl TC TX w R X) {b : Nat} {o : RecO} (ho : R b = some o) (j : Nat) : o.cells[dl + j]? = o.tail[j]? := by
  obtain ⟨hb, hl⟩ := h.recs b o ho
  rw [← hl, RecO.cells, List.getElem?_append_right (by omega)]
  congr 1; omega
theorem RecO.set_tail (o : RecO) (hl : o.data.length = dl) (j : Nat) (v : Value) : o.cells.set (dl + j) v = o.data ++ o.tail.set j v := by
  subst hl
  rw [RecO.cells, List.set_append_right _ _ (by omega)]
  congr 2; omega
/-- Other blocks have turned. -/
theorem Rep.fr (h : Rep TR dl TC TX w R X) {S : Nat → Prop} (hf : Fr w w' S) (hR : ∀ b o, R b = some o → ¬ S b ∧ ¬ S o.fb) (hX : ∀ b s, X b = some s → ¬ S b) : Rep TR dl TC TX w' R X :=
  ⟨fun b o ho => ⟨hf.blk (h.recs b o ho).1 (hR b o ho).1, (h.recs b o ho).2⟩, fun b o ho => hf.blk (h.fld b o ho) (hR b o ho).2, h.inj, fun b s hs => hf.blk (h.scx b s hs) (hX b s hs), h.kf, h.ki⟩
theorem Rep.below (h : Rep TR dl TC TX w R X) (hb : Below w.heap.size w w') : Rep TR dl TC TX w' R X :=
  h.fr (S := fun _ => False) (Fr.of_below0 hb) (fun _ _ _ => ⟨id, id⟩) (fun _ _ _ => id)
/-- Blocks of other types have turned. -/
theorem Rep.types (h : Rep TR dl TC TX w R X) {S : Nat → Prop} (hf : Fr w w' S) (hS : ∀ k, S k → ∃ T ys, Blk w k T ys ∧ T ≠ TR ∧ T ≠ TC ∧ T ≠ TX) : Rep TR dl TC TX w' R X := by
  refine h.fr hf (fun b o ho => ⟨fun hs => ?_, fun hs => ?_⟩) (fun b s hs' hs => ?_)
  · obtain ⟨T, ys, hb, h1, _⟩ := hS _ hs
    exact h1 (hb.inj (h.recs b o ho).1).1
  · obtain ⟨T, ys, hb, _, h1, _⟩ := hS _ hs
    exact h1 (hb.inj (h.fld b o ho)).1
  · obtain ⟨T, ys, hb, _, _, h1⟩ := hS _ hs
    exact h1 (hb.inj (h.scx b s hs')).1
theorem Rep.empty (TR dl TC TX : Nat) (w : World) : Rep TR dl TC TX w (fun _ => none) (fun _ => none) := ⟨(fun _ _ h => by cases h), (fun _ _ h => by cases h), (fun _ _ _ _ h => by cases h), (fun _ _ h => by cases h), (fun _ _ h => by cases h), (fun _ _ h => by cases h)⟩
variable {TT ti B : Nat} {g : Option Nat} {ks ks' : List Int}
/-- The types of these blocks are none of a tape's. -/
structure Tys (TR TC TX TT ti : Nat) : Prop where
  r1 : TR ≠ TT
  r2 : TR ≠ ti
  c1 : TC ≠ TT
  c2 : TC ≠ ti
  x1 : TX ≠ TT
  x2 : TX ≠ ti
  rc : TR ≠ TC
  rx : TR ≠ TX
  cx : TC ≠ TX
theorem Rep.step (h : Rep TR dl TC TX w R X) (ht : Tys TR TC TX TT ti) (hg : GAt TT ti w B g ks) (hs : Step TT ti B g w w' ks' (fun _ => False)) : Rep TR dl TC TX w' R X :=
  ⟨fun b o ho => ⟨hs.blk hg (h.recs b o ho).1 ht.r1 ht.r2 id, (h.recs b o ho).2⟩, fun b o ho => hs.blk hg (h.fld b o ho) ht.c1 ht.c2 id, h.inj, fun b s hs' => hs.blk hg (h.scx b s hs') ht.x1 ht.x2 id, h.kf, h.ki⟩
/-- One record's fields have turned. -/
theorem Rep.setFields (h : Rep TR dl TC TX w R X) (ht : Tys TR TC TX TT ti) (hg : GAt TT ti w B g ks) {b : Nat} {o : RecO} (ho : R b = some o) (hs : Step TT ti B g w w' ks' (fun k => k = o.fb))
    {fs : List (Option Nat)} (hl : fs.length = o.fields.length) (hb : Blk w' o.fb TC (fs.map pv)) (hk : ∀ x, some x ∈ fs → (R x).isSome) : Rep TR dl TC TX w' (upd R b { o with fields := fs }) X := by
  have hne : ∀ {k T xs}, Blk w k T xs → T ≠ TC → k ≠ o.fb := fun hk hT e => by
    subst e
    exact hT (hk.inj (h.fld b o ho)).1
  refine ⟨fun k o' ho' => ?_, fun k o' ho' => ?_, fun k o' k' o'' h1 h2 he => ?_, fun k s hs' => ?_, fun k o' ho' x hx => ?_, fun k o' ho' x hx => ?_⟩
  · rcases upd_cases ho' with ⟨rfl, rfl⟩ | ⟨_, ho'⟩
    · obtain ⟨hb0, hl0⟩ := h.recs _ _ ho
      have hc : RecO.cells { o with fields := fs } = o.cells := by simp [RecO.cells, RecO.tail, hl]
      rw [hc]
      exact ⟨hs.blk hg hb0 ht.r1 ht.r2 (hne hb0 ht.rc), hl0⟩
    · obtain ⟨hb0, hl0⟩ := h.recs _ _ ho'
      exact ⟨hs.blk hg hb0 ht.r1 ht.r2 (hne hb0 ht.rc), hl0⟩
  · rcases upd_cases ho' with ⟨rfl, rfl⟩ | ⟨hkb, ho'⟩
    · exact hb
    · exact hs.blk hg (h.fld _ _ ho') ht.c1 ht.c2 (fun e => hkb (h.inj _ _ _ _ ho' ho e))
  · rcases upd_cases h1 with ⟨rfl, rfl⟩ | ⟨n1, j1⟩ <;> rcases upd_cases h2 with ⟨rfl, rfl⟩ | ⟨n2, j2⟩
    · rfl
    · exact h.inj _ _ _ _ ho j2 he
    · exact h.inj _ _ _ _ j1 ho he
    · exact h.inj _ _ _ _ j1 j2 he
  · exact hs.blk hg (h.scx _ _ hs') ht.x1 ht.x2 (hne (h.scx _ _ hs') ht.cx.symm)
  · have hs2 : ∀ x, (R x).isSome → (upd R b { o with fields := fs } x).isSome := fun x hx => by
      unfold upd; split <;> simp_all
    rcases upd_cases ho' with ⟨rfl, rfl⟩ | ⟨_, ho'⟩
    · exact hs2 x (hk x hx)
    · exact hs2 x (h.kf _ _ ho' x hx)
  · rcases upd_cases ho' with ⟨rfl, rfl⟩ | ⟨_, ho'⟩
    · exact h.ki _ _ ho x hx
    · exact h.ki _ _ ho' x hx
/-- One record's own block has turned: its info, or its mark. -/
theorem Rep.setRec (h : Rep TR dl TC TX w R X) (ht : Tys TR TC TX TT ti) (hg : GAt TT ti w B g ks) {b : Nat} {o : RecO} (ho : R b = some o) (hs : Step TT ti B g w w' ks' (fun k => k = b))
    {o' : RecO} (hd' : o'.data = o.data) (hfb : o'.fb = o.fb) (hfs : o'.fields = o.fields) (hb : Blk w' b TR o'.cells) (hk : Ok X o'.info) : Rep TR dl TC TX w' (upd R b o') X := by
  have hne : ∀ {k T xs}, Blk w k T xs → T ≠ TR → k ≠ b := fun hk hT e => by
    subst e
    exact hT (hk.inj (h.recs _ _ ho).1).1
  refine ⟨fun k o1 ho' => ?_, fun k o1 ho' => ?_, fun k o1 k' o2 h1 h2 he => ?_, fun k s hs' => ?_, fun k o1 ho' x hx => ?_, fun k o1 ho' x hx => ?_⟩
  · rcases upd_cases ho' with ⟨rfl, rfl⟩ | ⟨hkb, ho'⟩
    · exact ⟨hb, by rw [hd']; exact (h.recs _ _ ho).2⟩
    · exact ⟨hs.blk hg (h.recs _ _ ho').1 ht.r1 ht.r2 hkb, (h.recs _ _ ho').2⟩
  · rcases upd_cases ho' with ⟨rfl, rfl⟩ | ⟨hkb, ho'⟩
    · rw [hfb, hfs]
      exact hs.blk hg (h.fld _ _ ho) ht.c1 ht.c2 (hne (h.fld _ _ ho) ht.rc.symm)
    · exact hs.blk hg (h.fld _ _ ho') ht.c1 ht.c2 (hne (h.fld _ _ ho') ht.rc.symm)
  · rcases upd_cases h1 with ⟨rfl, rfl⟩ | ⟨n1, j1⟩ <;> rcases upd_cases h2 with ⟨rfl, rfl⟩ | ⟨n2, j2⟩
    · rfl
    · exact h.inj _ _ _ _ ho j2 (by rw [← hfb]; exact he)
    · exact h.inj _ _ _ _ j1 ho (by rw [← hfb]; exact he)
    · exact h.inj _ _ _ _ j1 j2 he
  · exact hs.blk hg (h.scx _ _ hs') ht.x1 ht.x2 (hne (h.scx _ _ hs') ht.rx.symm)
  · have hs2 : ∀ x, (R x).isSome → (upd R b o' x).isSome := fun x hx => by
      unfold upd; split <;> simp_all
    rcases upd_cases ho' with ⟨rfl, rfl⟩ | ⟨_, ho'⟩
    · rw [hfs] at hx; exact hs2 x (h.kf _ _ ho x hx)
    · exact hs2 x (h.kf _ _ ho' x hx)
  · rcases upd_cases ho' with ⟨rfl, rfl⟩ | ⟨_, ho'⟩
    · exact hk x hx
    · exact h.ki _ _ ho' x hx
/-- One SCX-record has turned. -/
theorem Rep.setScx (h : Rep TR dl TC TX w R X) (ht : Tys TR TC TX TT ti) (hg : GAt TT ti w B g ks) {b : Nat} {s : ScxO} (hso : X b = some s) (hs : Step TT ti B g w w' ks' (fun k => k = b))
    {s' : ScxO} (hb : Blk w' b TX s'.cells) : Rep TR dl TC TX w' R (upd X b s') := by
  have hne : ∀ {k T xs}, Blk w k T xs → T ≠ TX → k ≠ b := fun hk hT e => by
    subst e
    exact hT (hk.inj (h.scx _ _ hso)).1
  refine ⟨fun k o1 ho' => ⟨hs.blk hg (h.recs _ _ ho').1 ht.r1 ht.r2 (hne (h.recs _ _ ho').1 ht.rx), (h.recs _ _ ho').2⟩, fun k o1 ho' => hs.blk hg (h.fld _ _ ho') ht.c1 ht.c2 (hne (h.fld _ _ ho') ht.cx), h.inj, fun k s1 hs' => ?_, h.kf, fun k o1 ho' x hx => ?_⟩
  · rcases upd_cases hs' with ⟨rfl, rfl⟩ | ⟨hkb, hs'⟩
    · exact hb
    · exact hs.blk hg (h.scx _ _ hs') ht.x1 ht.x2 hkb
  · have := h.ki _ _ ho' x hx
    unfold upd
    split <;> simp_all
/-- A new record, with its own first SCX-record. -/
theorem Rep.addRec (h : Rep TR dl TC TX w R X) (hbel : Below w.heap.size w w') {b fb : Nat} {o : RecO} (hb : w.heap.size ≤ b) (hfb : w.heap.size ≤ o.fb) (hr : Blk w' b TR o.cells) (hd' : o.data.length = dl)
    (hf : Blk w' o.fb TC (o.fields.map pv)) (hk : ∀ x, some x ∈ o.fields → (R x).isSome) {xb : Nat} {s : ScxO} (hi : o.info = some xb) (hx : w.heap.size ≤ xb) (hs : Blk w' xb TX s.cells) :
    Rep TR dl TC TX w' (upd R b o) (upd X xb s) := by
  have h' := h.below hbel
  have old : ∀ {k o1}, R k = some o1 → k < w.heap.size ∧ o1.fb < w.heap.size := fun h1 => ⟨(h.recs _ _ h1).1.lt, (h.fld _ _ h1).lt⟩
  refine ⟨fun k o1 ho' => ?_, fun k o1 ho' => ?_, fun k o1 k' o2 h1 h2 he => ?_, fun k s1 hs' => ?_, fun k o1 ho' x hx => ?_, fun k o1 ho' x hx' => ?_⟩
  · rcases upd_cases ho' with ⟨rfl, rfl⟩ | ⟨_, ho'⟩
    · exact ⟨hr, hd'⟩
    · exact h'.recs _ _ ho'
  · rcases upd_cases ho' with ⟨rfl, rfl⟩ | ⟨_, ho'⟩
    · exact hf
    · exact h'.fld _ _ ho'
  · rcases upd_cases h1 with ⟨rfl, rfl⟩ | ⟨n1, j1⟩ <;> rcases upd_cases h2 with ⟨rfl, rfl⟩ | ⟨n2, j2⟩
    · rfl
    · have := (old j2).2; omega
    · have := (old j1).2; omega
    · exact h.inj _ _ _ _ j1 j2 he
  · rcases upd_cases hs' with ⟨rfl, rfl⟩ | ⟨_, hs'⟩
    · exact hs
    · exact h'.scx _ _ hs'
  · have hs2 : ∀ x, (R x).isSome → (upd R b o x).isSome := fun x hx => by
      unfold upd; split <;> simp_all
    rcases upd_cases ho' with ⟨rfl, rfl⟩ | ⟨_, ho'⟩
    · exact hs2 x (hk x hx)
    · exact hs2 x (h.kf _ _ ho' x hx)
  · rcases upd_cases ho' with ⟨rfl, rfl⟩ | ⟨_, ho'⟩
    · rw [hi] at hx'; cases hx'; simp [upd]
    · have := h.ki _ _ ho' x hx'
      unfold upd; split <;> simp_all
/-- A new SCX-record. -/
theorem Rep.addScx (h : Rep TR dl TC TX w R X) (hbel : Below w.heap.size w w') {xb : Nat} {s : ScxO} (hs : Blk w' xb TX s.cells) : Rep TR dl TC TX w' R (upd X xb s) := by
  have h' := h.below hbel
  refine ⟨h'.recs, h'.fld, h'.inj, fun k s1 hs' => ?_, h.kf, fun k o1 ho' x hx' => ?_⟩
  · rcases upd_cases hs' with ⟨rfl, rfl⟩ | ⟨_, hs'⟩
    · exact hs
    · exact h'.scx _ _ hs'
  · have := h.ki _ _ ho' x hx'
    unfold upd; split <;> simp_all
end
end Go.Proofs.Ytphhdmopfmelbaa
