/- Joined texts: Heap Rec. -/
import Derived.Test.YtphhdmopfmelbaaM1
import Derived.Lib.Hide

/-
  Data-records and SCX-records in memory, by the blocks at which they stand. No program in sight.
-/
namespace Go.Proofs.Ytphhdmopfmelbaa
open Go.RowKit
set_option linter.unusedVariables false

/-- A data-record: what it holds, the block of its fields, its fields' records (blocks), its info, its mark. -/
structure RecO where
  data : List Value
  fb : Nat
  fields : List (Option Nat)
  info : Option Nat
  mark : Bool
def u32b (b : Bool) : Value := .int .u32 (if b then 1 else 0)
def RecO.tail (o : RecO) : List Value := [.slice (some ⟨o.fb, 0, none⟩) o.fields.length o.fields.length, pv o.info, u32b o.mark]
def RecO.cells (o : RecO) : List Value := o.data ++ o.tail
/-- An SCX-record: its three slices as values, where its field is, from what to what, its state, whether all is frozen. -/
structure ScxO where
  sv : Value
  si : Value
  sf : Value
  at_ : Int
  fld : Int
  old : Option Nat
  new : Option Nat
  state : Int
  frozen : Bool
def ScxO.cells (s : ScxO) : List Value := [s.sv, s.si, s.sf, .int .i64 s.at_, .int .i64 s.fld, pv s.old, pv s.new, .int .i64 s.state, u32b s.frozen]

/-- One place of a map is another. -/
def upd {α : Type} (R : Nat → Option α) (b : Nat) (o : α) : Nat → Option α := fun k => if k = b then some o else R k
theorem upd_self {α : Type} (R : Nat → Option α) (b : Nat) (o : α) : upd R b o b = some o := by simp [upd]
theorem upd_ne {α : Type} (R : Nat → Option α) {b k : Nat} (o : α) (h : k ≠ b) : upd R b o k = R k := by simp [upd, h]
theorem upd_cases {α : Type} {R : Nat → Option α} {b k : Nat} {o o' : α} (h : upd R b o k = some o') : (k = b ∧ o' = o) ∨ (k ≠ b ∧ R k = some o') := by
  unfold upd at h
  split at h
  · exact .inl ⟨‹_›, (Option.some.inj h).symm⟩
  · exact .inr ⟨‹_›, h⟩

/-- The memory holds these data-records and SCX-records. TR: the record's type, dl: how many cells its contents have; TC: the fields' cells' type; TX: the SCX-record's type. -/
structure Rep (TR dl TC TX : Nat) (w : World) (R : Nat → Option RecO) (X : Nat → Option ScxO) : Prop where
  recs : ∀ b o, R b = some o → Blk w b TR o.cells ∧ o.data.length = dl
  fld : ∀ b o, R b = some o → Blk w o.fb TC (o.fields.map pv)
  inj : ∀ b o b' o', R b = some o → R b' = some o' → o.fb = o'.fb → b = b'
  scx : ∀ b s, X b = some s → Blk w b TX s.cells
  kf : ∀ b o, R b = some o → ∀ x, some x ∈ o.fields → (R x).isSome
  ki : ∀ b o, R b = some o → ∀ x, o.info = some x → (X x).isSome

/-- x is nil, or one of R. -/
def Ok {α : Type} (R : Nat → Option α) (x : Option Nat) : Prop := ∀ b, x = some b → (R b).isSome
theorem Ok.none {α : Type} (R : Nat → Option α) : Ok R none := fun _ h => by cases h
theorem Ok.of {α : Type} {R : Nat → Option α} {b : Nat} {o : α} (h : R b = some o) : Ok R (some b) := fun b' e => by cases e; simp [h]
theorem Ok.upd {α : Type} {R : Nat → Option α} {x : Option Nat} (h : Ok R x) (b : Nat) (o : α) : Ok (upd R b o) x := fun b' e => by
  have := h b' e
  unfold Go.Proofs.Ytphhdmopfmelbaa.upd
  split <;> simp_all

section
variable {TR dl TC TX : Nat} {w w' : World} {R : Nat → Option RecO} {X : Nat → Option ScxO}
theorem RecO.cells_length (o : RecO) : o.cells.length = o.data.length + 3 := by simp [RecO.cells, RecO.tail]
theorem Rep.recPtr (h : Rep TR dl TC TX w R X) {x : Option Nat} (hx : Ok R x) : PtrTo TR (dl + 3) w x := fun b e => by
  obtain ⟨o, ho⟩ := Option.isSome_iff_exists.1 (hx b e)
  obtain ⟨hb, hl⟩ := h.recs b o ho
  exact ⟨_, hb, by rw [RecO.cells_length, hl]⟩
theorem Rep.scxPtr (h : Rep TR dl TC TX w R X) {x : Option Nat} (hx : Ok X x) : PtrTo TX 9 w x := fun b e => by
  obtain ⟨s, hs⟩ := Option.isSome_iff_exists.1 (hx b e)
  exact ⟨_, h.scx b s hs, rfl⟩
theorem Rep.okField (h : Rep TR dl TC TX w R X) {b : Nat} {o : RecO} (ho : R b = some o) {i : Nat} {p : Option Nat} (hp : o.fields[i]? = some p) : Ok R p := fun x e => by
  subst e
  exact h.kf b o ho x (List.mem_of_getElem? hp)
theorem Rep.okInfo (h : Rep TR dl TC TX w R X) {b : Nat} {o : RecO} (ho : R b = some o) : Ok X o.info := fun x e => h.ki b o ho x e
/-- The cells of a record. -/
theorem Rep.cell (h : Rep TR dl TC TX w R X) {b : Nat} {o : RecO} (ho : R b = some o) (j : Nat) : w.cell? ⟨b, dl + j, none⟩ = o.tail[j]? := by
  obtain ⟨hb, hl⟩ := h.recs b o ho
  rw [hb.cell, ← hl, RecO.cells, List.getElem?_append_right (by omega)]
  congr 1; omega
theorem Rep.at_ (h : Rep TR dl TC TX w R X) {b : Nat} {o : RecO} (ho : R b = some o) (j : Nat) : o.cells[dl + j]? = o.tail[j]? := by
  obtain ⟨hb, hl⟩ := h.recs b o ho
  rw [← hl, RecO.cells, List.getElem?_append_right (by omega)]
  congr 1; omega
theorem RecO.set_tail (o : RecO) (hl : o.data.length = dl) (j : Nat) (v : Value) : o.cells.set (dl + j) v = o.data ++ o.tail.set j v := by
  subst hl
  rw [RecO.cells, List.set_append_right _ _ (by omega)]
  congr 2; omega
/-- Other blocks have turned. -/
theorem Rep.fr (h : Rep TR dl TC TX w R X) {S : Nat → Prop} (hf : Fr w w' S) (hR : ∀ b o, R b = some o → ¬ S b ∧ ¬ S o.fb) (hX : ∀ b s, X b = some s → ¬ S b) : Rep TR dl TC TX w' R X :=
  ⟨fun b o ho => ⟨hf.blk (h.recs b o ho).1 (hR b o ho).1, (h.recs b o ho).2⟩, fun b o ho => hf.blk (h.fld b o ho) (hR b o ho).2, h.inj, fun b s hs => hf.blk (h.scx b s hs) (hX b s hs), h.kf, h.ki⟩
theorem Rep.below (h : Rep TR dl TC TX w R X) (hb : Below w.heap.size w w') : Rep TR dl TC TX w' R X :=
  h.fr (S := fun _ => False) (Fr.of_below0 hb) (fun _ _ _ => ⟨id, id⟩) (fun _ _ _ => id)
/-- Blocks of other types have turned. -/
theorem Rep.types (h : Rep TR dl TC TX w R X) {S : Nat → Prop} (hf : Fr w w' S) (hS : ∀ k, S k → ∃ T ys, Blk w k T ys ∧ T ≠ TR ∧ T ≠ TC ∧ T ≠ TX) : Rep TR dl TC TX w' R X := by
  refine h.fr hf (fun b o ho => ⟨fun hs => ?_, fun hs => ?_⟩) (fun b s hs' hs => ?_)
  · obtain ⟨T, ys, hb, h1, _⟩ := hS _ hs
    exact h1 (hb.inj (h.recs b o ho).1).1
  · obtain ⟨T, ys, hb, _, h1, _⟩ := hS _ hs
    exact h1 (hb.inj (h.fld b o ho)).1
  · obtain ⟨T, ys, hb, _, _, h1⟩ := hS _ hs
    exact h1 (hb.inj (h.scx b s hs')).1
theorem Rep.empty (TR dl TC TX : Nat) (w : World) : Rep TR dl TC TX w (fun _ => none) (fun _ => none) := ⟨(fun _ _ h => by cases h), (fun _ _ h => by cases h), (fun _ _ _ _ h => by cases h), (fun _ _ h => by cases h), (fun _ _ h => by cases h), (fun _ _ h => by cases h)⟩
variable {TT ti B : Nat} {g : Option Nat} {ks ks' : List Int}
/-- The types of these blocks are none of a tape's. -/
structure Tys (TR TC TX TT ti : Nat) : Prop where
  r1 : TR ≠ TT
  r2 : TR ≠ ti
  c1 : TC ≠ TT
  c2 : TC ≠ ti
  x1 : TX ≠ TT
  x2 : TX ≠ ti
  rc : TR ≠ TC
  rx : TR ≠ TX
  cx : TC ≠ TX
theorem Rep.step (h : Rep TR dl TC TX w R X) (ht : Tys TR TC TX TT ti) (hg : GAt TT ti w B g ks) (hs : Step TT ti B g w w' ks' (fun _ => False)) : Rep TR dl TC TX w' R X :=
  ⟨fun b o ho => ⟨hs.blk hg (h.recs b o ho).1 ht.r1 ht.r2 id, (h.recs b o ho).2⟩, fun b o ho => hs.blk hg (h.fld b o ho) ht.c1 ht.c2 id, h.inj, fun b s hs' => hs.blk hg (h.scx b s hs') ht.x1 ht.x2 id, h.kf, h.ki⟩
/-- One record's fields have turned. -/
theorem Rep.setFields (h : Rep TR dl TC TX w R X) (ht : Tys TR TC TX TT ti) (hg : GAt TT ti w B g ks) {b : Nat} {o : RecO} (ho : R b = some o) (hs : Step TT ti B g w w' ks' (fun k => k = o.fb))
    {fs : List (Option Nat)} (hl : fs.length = o.fields.length) (hb : Blk w' o.fb TC (fs.map pv)) (hk : ∀ x, some x ∈ fs → (R x).isSome) : Rep TR dl TC TX w' (upd R b { o with fields := fs }) X := by
  have hne : ∀ {k T xs}, Blk w k T xs → T ≠ TC → k ≠ o.fb := fun hk hT e => by
    subst e
    exact hT (hk.inj (h.fld b o ho)).1
  refine ⟨fun k o' ho' => ?_, fun k o' ho' => ?_, fun k o' k' o'' h1 h2 he => ?_, fun k s hs' => ?_, fun k o' ho' x hx => ?_, fun k o' ho' x hx => ?_⟩
  · rcases upd_cases ho' with ⟨rfl, rfl⟩ | ⟨_, ho'⟩
    · obtain ⟨hb0, hl0⟩ := h.recs _ _ ho
      have hc : RecO.cells { o with fields := fs } = o.cells := by simp [RecO.cells, RecO.tail, hl]
      rw [hc]
      exact ⟨hs.blk hg hb0 ht.r1 ht.r2 (hne hb0 ht.rc), hl0⟩
    · obtain ⟨hb0, hl0⟩ := h.recs _ _ ho'
      exact ⟨hs.blk hg hb0 ht.r1 ht.r2 (hne hb0 ht.rc), hl0⟩
  · rcases upd_cases ho' with ⟨rfl, rfl⟩ | ⟨hkb, ho'⟩
    · exact hb
    · exact hs.blk hg (h.fld _ _ ho') ht.c1 ht.c2 (fun e => hkb (h.inj _ _ _ _ ho' ho e))
  · rcases upd_cases h1 with ⟨rfl, rfl⟩ | ⟨n1, j1⟩ <;> rcases upd_cases h2 with ⟨rfl, rfl⟩ | ⟨n2, j2⟩
    · rfl
    · exact h.inj _ _ _ _ ho j2 he
    · exact h.inj _ _ _ _ j1 ho he
    · exact h.inj _ _ _ _ j1 j2 he
  · exact hs.blk hg (h.scx _ _ hs') ht.x1 ht.x2 (hne (h.scx _ _ hs') ht.cx.symm)
  · have hs2 : ∀ x, (R x).isSome → (upd R b { o with fields := fs } x).isSome := fun x hx => by
      unfold upd; split <;> simp_all
    rcases upd_cases ho' with ⟨rfl, rfl⟩ | ⟨_, ho'⟩
    · exact hs2 x (hk x hx)
    · exact hs2 x (h.kf _ _ ho' x hx)
  · rcases upd_cases ho' with ⟨rfl, rfl⟩ | ⟨_, ho'⟩
    · exact h.ki _ _ ho x hx
    · exact h.ki _ _ ho' x hx
/-- One record's own block has turned: its info, or its mark. -/
theorem Rep.setRec (h : Rep TR dl TC TX w R X) (ht : Tys TR TC TX TT ti) (hg : GAt TT ti w B g ks) {b : Nat} {o : RecO} (ho : R b = some o) (hs : Step TT ti B g w w' ks' (fun k => k = b))
    {o' : RecO} (hd' : o'.data = o.data) (hfb : o'.fb = o.fb) (hfs : o'.fields = o.fields) (hb : Blk w' b TR o'.cells) (hk : Ok X o'.info) : Rep TR dl TC TX w' (upd R b o') X := by
  have hne : ∀ {k T xs}, Blk w k T xs → T ≠ TR → k ≠ b := fun hk hT e => by
    subst e
    exact hT (hk.inj (h.recs _ _ ho).1).1
  refine ⟨fun k o1 ho' => ?_, fun k o1 ho' => ?_, fun k o1 k' o2 h1 h2 he => ?_, fun k s hs' => ?_, fun k o1 ho' x hx => ?_, fun k o1 ho' x hx => ?_⟩
  · rcases upd_cases ho' with ⟨rfl, rfl⟩ | ⟨hkb, ho'⟩
    · exact ⟨hb, by rw [hd']; exact (h.recs _ _ ho).2⟩
    · exact ⟨hs.blk hg (h.recs _ _ ho').1 ht.r1 ht.r2 hkb, (h.recs _ _ ho').2⟩
  · rcases upd_cases ho' with ⟨rfl, rfl⟩ | ⟨hkb, ho'⟩
    · rw [hfb, hfs]
      exact hs.blk hg (h.fld _ _ ho) ht.c1 ht.c2 (hne (h.fld _ _ ho) ht.rc.symm)
    · exact hs.blk hg (h.fld _ _ ho') ht.c1 ht.c2 (hne (h.fld _ _ ho') ht.rc.symm)
  · rcases upd_cases h1 with ⟨rfl, rfl⟩ | ⟨n1, j1⟩ <;> rcases upd_cases h2 with ⟨rfl, rfl⟩ | ⟨n2, j2⟩
    · rfl
    · exact h.inj _ _ _ _ ho j2 (by rw [← hfb]; exact he)
    · exact h.inj _ _ _ _ j1 ho (by rw [← hfb]; exact he)
    · exact h.inj _ _ _ _ j1 j2 he
  · exact hs.blk hg (h.scx _ _ hs') ht.x1 ht.x2 (hne (h.scx _ _ hs') ht.rx.symm)
  · have hs2 : ∀ x, (R x).isSome → (upd R b o' x).isSome := fun x hx => by
      unfold upd; split <;> simp_all
    rcases upd_cases ho' with ⟨rfl, rfl⟩ | ⟨_, ho'⟩
    · rw [hfs] at hx; exact hs2 x (h.kf _ _ ho x hx)
    · exact hs2 x (h.kf _ _ ho' x hx)
  · rcases upd_cases ho' with ⟨rfl, rfl⟩ | ⟨_, ho'⟩
    · exact hk x hx
    · exact h.ki _ _ ho' x hx
/-- One SCX-record has turned. -/
theorem Rep.setScx (h : Rep TR dl TC TX w R X) (ht : Tys TR TC TX TT ti) (hg : GAt TT ti w B g ks) {b : Nat} {s : ScxO} (hso : X b = some s) (hs : Step TT ti B g w w' ks' (fun k => k = b))
    {s' : ScxO} (hb : Blk w' b TX s'.cells) : Rep TR dl TC TX w' R (upd X b s') := by
  have hne : ∀ {k T xs}, Blk w k T xs → T ≠ TX → k ≠ b := fun hk hT e => by
    subst e
    exact hT (hk.inj (h.scx _ _ hso)).1
  refine ⟨fun k o1 ho' => ⟨hs.blk hg (h.recs _ _ ho').1 ht.r1 ht.r2 (hne (h.recs _ _ ho').1 ht.rx), (h.recs _ _ ho').2⟩, fun k o1 ho' => hs.blk hg (h.fld _ _ ho') ht.c1 ht.c2 (hne (h.fld _ _ ho') ht.cx), h.inj, fun k s1 hs' => ?_, h.kf, fun k o1 ho' x hx => ?_⟩
  · rcases upd_cases hs' with ⟨rfl, rfl⟩ | ⟨hkb, hs'⟩
    · exact hb
    · exact hs.blk hg (h.scx _ _ hs') ht.x1 ht.x2 hkb
  · have := h.ki _ _ ho' x hx
    unfold upd
    split <;> simp_all
/-- A new record, with its own first SCX-record. -/
theorem Rep.addRec (h : Rep TR dl TC TX w R X) (hbel : Below w.heap.size w w') {b fb : Nat} {o : RecO} (hb : w.heap.size ≤ b) (hfb : w.heap.size ≤ o.fb) (hr : Blk w' b TR o.cells) (hd' : o.data.length = dl)
    (hf : Blk w' o.fb TC (o.fields.map pv)) (hk : ∀ x, some x ∈ o.fields → (R x).isSome) {xb : Nat} {s : ScxO} (hi : o.info = some xb) (hx : w.heap.size ≤ xb) (hs : Blk w' xb TX s.cells) :
    Rep TR dl TC TX w' (upd R b o) (upd X xb s) := by
  have h' := h.below hbel
  have old : ∀ {k o1}, R k = some o1 → k < w.heap.size ∧ o1.fb < w.heap.size := fun h1 => ⟨(h.recs _ _ h1).1.lt, (h.fld _ _ h1).lt⟩
  refine ⟨fun k o1 ho' => ?_, fun k o1 ho' => ?_, fun k o1 k' o2 h1 h2 he => ?_, fun k s1 hs' => ?_, fun k o1 ho' x hx => ?_, fun k o1 ho' x hx' => ?_⟩
  · rcases upd_cases ho' with ⟨rfl, rfl⟩ | ⟨_, ho'⟩
    · exact ⟨hr, hd'⟩
    · exact h'.recs _ _ ho'
  · rcases upd_cases ho' with ⟨rfl, rfl⟩ | ⟨_, ho'⟩
    · exact hf
    · exact h'.fld _ _ ho'
  · rcases upd_cases h1 with ⟨rfl, rfl⟩ | ⟨n1, j1⟩ <;> rcases upd_cases h2 with ⟨rfl, rfl⟩ | ⟨n2, j2⟩
    · rfl
    · have := (old j2).2; omega
    · have := (old j1).2; omega
    · exact h.inj _ _ _ _ j1 j2 he
  · rcases upd_cases hs' with ⟨rfl, rfl⟩ | ⟨_, hs'⟩
    · exact hs
    · exact h'.scx _ _ hs'
  · have hs2 : ∀ x, (R x).isSome → (upd R b o x).isSome := fun x hx => by
      unfold upd; split <;> simp_all
    rcases upd_cases ho' with ⟨rfl, rfl⟩ | ⟨_, ho'⟩
    · exact hs2 x (hk x hx)
    · exact hs2 x (h.kf _ _ ho' x hx)
  · rcases upd_cases ho' with ⟨rfl, rfl⟩ | ⟨_, ho'⟩
    · rw [hi] at hx'; cases hx'; simp [upd]
    · have := h.ki _ _ ho' x hx'
      unfold upd; split <;> simp_all
/-- A new SCX-record. -/
theorem Rep.addScx (h : Rep TR dl TC TX w R X) (hbel : Below w.heap.size w w') {xb : Nat} {s : ScxO} (hs : Blk w' xb TX s.cells) : Rep TR dl TC TX w' R (upd X xb s) := by
  have h' := h.below hbel
  refine ⟨h'.recs, h'.fld, h'.inj, fun k s1 hs' => ?_, h.kf, fun k o1 ho' x hx' => ?_⟩
  · rcases upd_cases hs' with ⟨rfl, rfl⟩ | ⟨_, hs'⟩
    · exact hs
    · exact h'.scx _ _ hs'
  · have := h.ki _ _ ho' x hx'
    unfold upd; split <;> simp_all
end
end Go.Proofs.Ytphhdmopfmelbaa

/- Data-records and SCX-records: each access by a gate. Written by mk.py. -/
namespace Go.Proofs.Ytphhdmopfmelbaa
open Go.RowKit Go.Proofs.YtphhdmopfmelbaaW.PrintWords
set_option linter.unusedVariables false
set_option linter.unusedSimpArgs false

abbrev Repint := Rep 178 1 170 152
theorem tys_int : Tys 178 170 152 TT ti := ⟨by decide, by decide, by decide, by decide, by decide, by decide, by decide, by decide, by decide⟩

set_option maxHeartbeats 400000 in
theorem len_int (R : Nat → Option RecO) (X : Nat → Option ScxO) (w : World) (h : Repint w R X) (b : Nat) (o : RecO) (ho : R b = some o) :
    Calls Try.prog 98 #[pv (some b)] w fun e w' => e = .returned (.int .i64 o.fields.length) ∧ w = w' := by
  have hc : w.cell? ⟨b, 1, none⟩ = some (.slice (some ⟨o.fb, 0, none⟩) o.fields.length o.fields.length) := h.cell ho 0
  show Calls Try.prog 98 #[.pointer (some ⟨b, 0, none⟩)] w _
  go_enter Try.func98, Try.ntmps98
  go_wp2
  go_ret
  exact ⟨rfl, rfl⟩

set_option maxHeartbeats 400000 in
theorem get_int (B : Nat) (g : Option Nat) (ks : List Int) (R : Nat → Option RecO) (X : Nat → Option ScxO) (w : World) (h : Repint w R X) (hg : GAtI w B g ks) (hbB : B ≤ w.heap.size) (hl : ks.length ≤ 1000000000) (b : Nat) (o : RecO) (ho : R b = some o) (i : Int) (i0 : 0 ≤ i) (i1 : i < o.fields.length) :
    Calls Try.prog 94 #[pv (some b), gvI g, .int .i64 i] w fun e w' => e = .returned (pv (o.fields.getD i.toNat none)) ∧ StepI B g w w' (ks ++ [1]) (fun _ => False) ∧ Repint w' R X := by
  have hc : w.cell? ⟨b, 1, none⟩ = some (.slice (some ⟨o.fb, 0, none⟩) o.fields.length o.fields.length) := h.cell ho 0
  have hlt : i.toNat < o.fields.length := by omega
  have hx0 : o.fields[i.toNat]? = some (o.fields.getD i.toNat none) := by simp [List.getD_eq_getElem?_getD, List.getElem?_eq_getElem hlt]
  have hx : (o.fields.map pv)[i.toNat]? = some (pv (o.fields.getD i.toNat none)) := by rw [List.getElem?_map, hx0]; rfl
  have C := cell_load_Recordint B g ks o.fb i.toNat 170 _ w hg hbB hl (h.fld b o ho) (by decide) (by decide) _ hx (h.recPtr (h.okField ho hx0))
  have HS := fun w' hs => h.step tys_int hg (w' := w') (ks' := ks ++ [1]) hs
  generalize o.fields.getD i.toNat none = p at *
  clear hx hx0 h hg
  show Calls Try.prog 94 #[.pointer (some ⟨b, 0, none⟩), gvI g, .int .i64 i] w _
  have HC := Lib.hid C
  have HS' := Lib.hid HS
  clear C HS
  go_enter Try.func94, Try.ntmps94
  go_wp2_with fail
  refine HC.out.mono ?_
  rintro e w1 ⟨rfl, H⟩
  have H2 := Lib.hid (HS'.out w1 H)
  have H1 := Lib.hid H
  clear H HC HS'
  go_wp2
  go_ret
  exact ⟨rfl, H1.out, H2.out⟩

set_option maxHeartbeats 400000 in
theorem swing_int (B : Nat) (g : Option Nat) (ks : List Int) (R : Nat → Option RecO) (X : Nat → Option ScxO) (w : World) (h : Repint w R X) (hg : GAtI w B g ks) (hbB : B ≤ w.heap.size) (hl : ks.length ≤ 1000000000) (b : Nat) (o : RecO) (ho : R b = some o) (i : Int) (i0 : 0 ≤ i) (i1 : i < o.fields.length) (x y : Option Nat) (hx : Ok R x) (hy : Ok R y) :
    Calls Try.prog 76 #[pv (some b), gvI g, .int .i64 i, pv x, pv y] w fun e w' => e = .returned (.bool (decide (o.fields.getD i.toNat none = x))) ∧ StepI B g w w' (ks ++ [5]) (fun k => k = o.fb) ∧
      Repint w' (upd R b { o with fields := if o.fields.getD i.toNat none = x then o.fields.set i.toNat y else o.fields }) X := by
  have hc : w.cell? ⟨b, 1, none⟩ = some (.slice (some ⟨o.fb, 0, none⟩) o.fields.length o.fields.length) := h.cell ho 0
  have hlt : i.toNat < o.fields.length := by omega
  have hx0 : o.fields[i.toNat]? = some (o.fields.getD i.toNat none) := by simp [List.getD_eq_getElem?_getD, List.getElem?_eq_getElem hlt]
  have hx1 : (o.fields.map pv)[i.toNat]? = some (pv (o.fields.getD i.toNat none)) := by rw [List.getElem?_map, hx0]; rfl
  have C := cell_cas_Recordint B g ks o.fb i.toNat 170 _ w hg hbB hl (h.fld b o ho) (by decide) (by decide) _ x y hx1 (h.recPtr (h.okField ho hx0)) (h.recPtr hx) (h.recPtr hy)
  have HS : ∀ w', StepI B g w w' (ks ++ [5]) (fun k => k = o.fb) → Blk w' o.fb 170 (if o.fields.getD i.toNat none = x then (o.fields.map pv).set i.toNat (pv y) else o.fields.map pv) →
      Repint w' (upd R b { o with fields := if o.fields.getD i.toNat none = x then o.fields.set i.toNat y else o.fields }) X := fun w' hs hb => by
    refine h.setFields tys_int hg ho hs ?_ ?_ ?_
    · split <;> simp
    · split at hb
      · rw [if_pos ‹_›, List.map_set]; exact hb
      · rw [if_neg ‹_›]; exact hb
    · intro z hz
      split at hz
      · rcases List.mem_or_eq_of_mem_set hz with hz | hz
        · exact h.kf b o ho z hz
        · exact hy z hz.symm
      · exact h.kf b o ho z hz
  generalize o.fields.getD i.toNat none = p at *
  clear hx hx0 hx1 hy h hg
  show Calls Try.prog 76 #[.pointer (some ⟨b, 0, none⟩), gvI g, .int .i64 i, pv x, pv y] w _
  refine calls_hide fun Q HQ => ?_
  have HQ' := Lib.hid HQ
  clear HQ
  have HC := Lib.hid C
  have HS' := Lib.hid HS
  clear C HS
  go_enter Try.func76, Try.ntmps76
  go_wp2_with fail
  refine HC.out.mono ?_
  rintro e w1 ⟨rfl, H, hb⟩
  have H2 := Lib.hid (HS'.out w1 H hb)
  have H1 := Lib.hid H
  clear H HC HS' hb
  go_wp2
  exact HQ'.out _ _ ⟨rfl, H1.out, H2.out⟩

set_option maxHeartbeats 400000 in
theorem info_int (B : Nat) (g : Option Nat) (ks : List Int) (R : Nat → Option RecO) (X : Nat → Option ScxO) (w : World) (h : Repint w R X) (hg : GAtI w B g ks) (hbB : B ≤ w.heap.size) (hl : ks.length ≤ 1000000000) (b : Nat) (o : RecO) (ho : R b = some o) :
    Calls Try.prog 71 #[pv (some b), gvI g] w fun e w' => e = .returned (pv o.info) ∧ StepI B g w w' (ks ++ [1]) (fun _ => False) ∧ Repint w' R X := by
  have C := cell_load_Scxint B g ks b 2 178 _ w hg hbB hl (h.recs b o ho).1 (by decide) (by decide) o.info (h.at_ ho 1) (h.scxPtr (h.okInfo ho))
  have HS := fun w' hs => h.step tys_int hg (w' := w') (ks' := ks ++ [1]) hs
  clear h hg
  show Calls Try.prog 71 #[.pointer (some ⟨b, 0, none⟩), gvI g] w _
  have HC := Lib.hid C
  have HS' := Lib.hid HS
  clear C HS
  go_enter Try.func71, Try.ntmps71
  go_wp2_with fail
  refine HC.out.mono ?_
  rintro e w1 ⟨rfl, H⟩
  have H2 := Lib.hid (HS'.out w1 H)
  have H1 := Lib.hid H
  clear H HC HS'
  go_wp2
  go_ret
  exact ⟨rfl, H1.out, H2.out⟩

set_option maxHeartbeats 400000 in
theorem freeze_int (B : Nat) (g : Option Nat) (ks : List Int) (R : Nat → Option RecO) (X : Nat → Option ScxO) (w : World) (h : Repint w R X) (hg : GAtI w B g ks) (hbB : B ≤ w.heap.size) (hl : ks.length ≤ 1000000000) (b : Nat) (o : RecO) (ho : R b = some o) (x y : Option Nat) (hx : Ok X x) (hy : Ok X y) :
    Calls Try.prog 70 #[pv (some b), gvI g, pv x, pv y] w fun e w' => e = .returned (.bool (decide (o.info = x))) ∧ StepI B g w w' (ks ++ [5]) (fun k => k = b) ∧
      Repint w' (upd R b { o with info := if o.info = x then y else o.info }) X := by
  have C := cell_cas_Scxint B g ks b 2 178 _ w hg hbB hl (h.recs b o ho).1 (by decide) (by decide) o.info x y (h.at_ ho 1) (h.scxPtr (h.okInfo ho)) (h.scxPtr hx) (h.scxPtr hy)
  have HS : ∀ w', StepI B g w w' (ks ++ [5]) (fun k => k = b) → Blk w' b 178 (if o.info = x then o.cells.set 2 (pv y) else o.cells) →
      Repint w' (upd R b { o with info := if o.info = x then y else o.info }) X := fun w' hs hb => by
    refine h.setRec tys_int hg ho hs rfl rfl rfl ?_ ?_
    · split at hb
      · rw [if_pos ‹_›]
        rw [show 2 = 1 + 1 from rfl, o.set_tail (h.recs b o ho).2] at hb
        exact hb
      · rw [if_neg ‹_›]; exact hb
    · show Ok X (if o.info = x then y else o.info)
      split
      · exact hy
      · exact h.okInfo ho
  clear hx hy h hg
  show Calls Try.prog 70 #[.pointer (some ⟨b, 0, none⟩), gvI g, pv x, pv y] w _
  refine calls_hide fun Q HQ => ?_
  have HQ' := Lib.hid HQ
  clear HQ
  have HC := Lib.hid C
  have HS' := Lib.hid HS
  clear C HS
  go_enter Try.func70, Try.ntmps70
  go_wp2_with fail
  refine HC.out.mono ?_
  rintro e w1 ⟨rfl, H, hb⟩
  have H2 := Lib.hid (HS'.out w1 H hb)
  have H1 := Lib.hid H
  clear H HC HS' hb
  go_wp2
  exact HQ'.out _ _ ⟨rfl, H1.out, H2.out⟩

set_option maxHeartbeats 400000 in
theorem marked_int (B : Nat) (g : Option Nat) (ks : List Int) (R : Nat → Option RecO) (X : Nat → Option ScxO) (w : World) (h : Repint w R X) (hg : GAtI w B g ks) (hbB : B ≤ w.heap.size) (hl : ks.length ≤ 1000000000) (b : Nat) (o : RecO) (ho : R b = some o) :
    Calls Try.prog 97 #[pv (some b), gvI g] w fun e w' => e = .returned (.bool o.mark) ∧ StepI B g w w' (ks ++ [1]) (fun _ => False) ∧ Repint w' R X := by
  have HS := fun w' hs => h.step tys_int hg (w' := w') (ks' := ks ++ [1]) hs
  have HS' := Lib.hid HS
  clear HS
  cases hm : o.mark with
  | false =>
    have C := mark_load_false B g ks b 3 178 _ w hg hbB hl (h.recs b o ho).1 (by decide) (by decide) (by rw [show 3 = 1 + 2 from rfl, h.at_ ho 2]; simp [RecO.tail, ScxO.cells, u32b, hm])
    have HC := Lib.hid C
    clear C h hg hm
    show Calls Try.prog 97 #[.pointer (some ⟨b, 0, none⟩), gvI g] w _
    go_enter Try.func97, Try.ntmps97
    go_wp2_with fail
    refine HC.out.mono ?_
    rintro e w1 ⟨rfl, H⟩
    have H2 := Lib.hid (HS'.out w1 H)
    have H1 := Lib.hid H
    clear H HC HS'
    go_wp2
    go_ret
    exact ⟨rfl, H1.out, H2.out⟩
  | true =>
    have C := mark_load_true B g ks b 3 178 _ w hg hbB hl (h.recs b o ho).1 (by decide) (by decide) (by rw [show 3 = 1 + 2 from rfl, h.at_ ho 2]; simp [RecO.tail, ScxO.cells, u32b, hm])
    have HC := Lib.hid C
    clear C h hg hm
    show Calls Try.prog 97 #[.pointer (some ⟨b, 0, none⟩), gvI g] w _
    go_enter Try.func97, Try.ntmps97
    go_wp2_with fail
    refine HC.out.mono ?_
    rintro e w1 ⟨rfl, H⟩
    have H2 := Lib.hid (HS'.out w1 H)
    have H1 := Lib.hid H
    clear H HC HS'
    go_wp2
    go_ret
    exact ⟨rfl, H1.out, H2.out⟩

set_option maxHeartbeats 400000 in
theorem allfrozen_int (B : Nat) (g : Option Nat) (ks : List Int) (R : Nat → Option RecO) (X : Nat → Option ScxO) (w : World) (h : Repint w R X) (hg : GAtI w B g ks) (hbB : B ≤ w.heap.size) (hl : ks.length ≤ 1000000000) (b : Nat) (o : ScxO) (ho : X b = some o) :
    Calls Try.prog 72 #[pv (some b), gvI g] w fun e w' => e = .returned (.bool o.frozen) ∧ StepI B g w w' (ks ++ [1]) (fun _ => False) ∧ Repint w' R X := by
  have HS := fun w' hs => h.step tys_int hg (w' := w') (ks' := ks ++ [1]) hs
  have HS' := Lib.hid HS
  clear HS
  cases hm : o.frozen with
  | false =>
    have C := mark_load_false B g ks b 8 152 _ w hg hbB hl (h.scx b o ho) (by decide) (by decide) (by simp [RecO.tail, ScxO.cells, u32b, hm])
    have HC := Lib.hid C
    clear C h hg hm
    show Calls Try.prog 72 #[.pointer (some ⟨b, 0, none⟩), gvI g] w _
    go_enter Try.func72, Try.ntmps72
    go_wp2_with fail
    refine HC.out.mono ?_
    rintro e w1 ⟨rfl, H⟩
    have H2 := Lib.hid (HS'.out w1 H)
    have H1 := Lib.hid H
    clear H HC HS'
    go_wp2
    go_ret
    exact ⟨rfl, H1.out, H2.out⟩
  | true =>
    have C := mark_load_true B g ks b 8 152 _ w hg hbB hl (h.scx b o ho) (by decide) (by decide) (by simp [RecO.tail, ScxO.cells, u32b, hm])
    have HC := Lib.hid C
    clear C h hg hm
    show Calls Try.prog 72 #[.pointer (some ⟨b, 0, none⟩), gvI g] w _
    go_enter Try.func72, Try.ntmps72
    go_wp2_with fail
    refine HC.out.mono ?_
    rintro e w1 ⟨rfl, H⟩
    have H2 := Lib.hid (HS'.out w1 H)
    have H1 := Lib.hid H
    clear H HC HS'
    go_wp2
    go_ret
    exact ⟨rfl, H1.out, H2.out⟩

set_option maxHeartbeats 400000 in
theorem mark_int (B : Nat) (g : Option Nat) (ks : List Int) (R : Nat → Option RecO) (X : Nat → Option ScxO) (w : World) (h : Repint w R X) (hg : GAtI w B g ks) (hbB : B ≤ w.heap.size) (hl : ks.length ≤ 1000000000) (b : Nat) (o : RecO) (ho : R b = some o) :
    Calls Try.prog 75 #[pv (some b), gvI g] w fun e w' => e = .returned (.tuple #[]) ∧ StepI B g w w' (ks ++ [2]) (fun k => k = b) ∧ Repint w' (upd R b { o with mark := true }) X := by
  have C := mark_store_true B g ks b 3 178 _ w hg hbB hl (h.recs b o ho).1 (by decide) (by decide) _ (h.at_ ho 2)
  have HS : ∀ w', StepI B g w w' (ks ++ [2]) (fun k => k = b) → Blk w' b 178 (o.cells.set 3 (.int .u32 1)) → Repint w' (upd R b { o with mark := true }) X := fun w' hs hb => by
    refine h.setRec tys_int hg ho hs rfl rfl rfl ?_ (fun x e => h.ki b o ho x e)
    rw [show 3 = 1 + 2 from rfl, o.set_tail (h.recs b o ho).2] at hb
    exact hb
  have HC := Lib.hid C
  have HS' := Lib.hid HS
  clear C HS h hg
  show Calls Try.prog 75 #[.pointer (some ⟨b, 0, none⟩), gvI g] w _
  go_enter Try.func75, Try.ntmps75
  go_wp2_with fail
  refine HC.out.mono ?_
  rintro e w1 ⟨rfl, H, hb⟩
  have H2 := Lib.hid (HS'.out w1 H hb)
  have H1 := Lib.hid H
  clear H HC HS' hb
  go_wp2
  go_end0
  exact ⟨rfl, H1.out, H2.out⟩

set_option maxHeartbeats 400000 in
theorem commit_int (B : Nat) (g : Option Nat) (ks : List Int) (R : Nat → Option RecO) (X : Nat → Option ScxO) (w : World) (h : Repint w R X) (hg : GAtI w B g ks) (hbB : B ≤ w.heap.size) (hl : ks.length ≤ 1000000000) (b : Nat) (o : ScxO) (ho : X b = some o) :
    Calls Try.prog 77 #[pv (some b), gvI g] w fun e w' => e = .returned (.tuple #[]) ∧ StepI B g w w' (ks ++ [2]) (fun k => k = b) ∧ Repint w' R (upd X b { o with state := 1 }) := by
  have C := num_store B g ks b 7 152 _ w hg hbB hl (h.scx b o ho) (by decide) (by decide) 1 (by decide) (by decide) (.int .i64 o.state) rfl
  have HS : ∀ w', StepI B g w w' (ks ++ [2]) (fun k => k = b) → Blk w' b 152 (o.cells.set 7 (.int .i64 1)) → Repint w' R (upd X b { o with state := 1 }) := fun w' hs hb => by
    exact h.setScx tys_int hg ho hs hb
  have HC := Lib.hid C
  have HS' := Lib.hid HS
  clear C HS h hg
  show Calls Try.prog 77 #[.pointer (some ⟨b, 0, none⟩), gvI g] w _
  go_enter Try.func77, Try.ntmps77
  go_wp2_with fail
  refine HC.out.mono ?_
  rintro e w1 ⟨rfl, H, hb⟩
  have H2 := Lib.hid (HS'.out w1 H hb)
  have H1 := Lib.hid H
  clear H HC HS' hb
  go_wp2
  go_end0
  exact ⟨rfl, H1.out, H2.out⟩

set_option maxHeartbeats 400000 in
theorem abort_int (B : Nat) (g : Option Nat) (ks : List Int) (R : Nat → Option RecO) (X : Nat → Option ScxO) (w : World) (h : Repint w R X) (hg : GAtI w B g ks) (hbB : B ≤ w.heap.size) (hl : ks.length ≤ 1000000000) (b : Nat) (o : ScxO) (ho : X b = some o) :
    Calls Try.prog 73 #[pv (some b), gvI g] w fun e w' => e = .returned (.tuple #[]) ∧ StepI B g w w' (ks ++ [2]) (fun k => k = b) ∧ Repint w' R (upd X b { o with state := 2 }) := by
  have C := num_store B g ks b 7 152 _ w hg hbB hl (h.scx b o ho) (by decide) (by decide) 2 (by decide) (by decide) (.int .i64 o.state) rfl
  have HS : ∀ w', StepI B g w w' (ks ++ [2]) (fun k => k = b) → Blk w' b 152 (o.cells.set 7 (.int .i64 2)) → Repint w' R (upd X b { o with state := 2 }) := fun w' hs hb => by
    exact h.setScx tys_int hg ho hs hb
  have HC := Lib.hid C
  have HS' := Lib.hid HS
  clear C HS h hg
  show Calls Try.prog 73 #[.pointer (some ⟨b, 0, none⟩), gvI g] w _
  go_enter Try.func73, Try.ntmps73
  go_wp2_with fail
  refine HC.out.mono ?_
  rintro e w1 ⟨rfl, H, hb⟩
  have H2 := Lib.hid (HS'.out w1 H hb)
  have H1 := Lib.hid H
  clear H HC HS' hb
  go_wp2
  go_end0
  exact ⟨rfl, H1.out, H2.out⟩

set_option maxHeartbeats 400000 in
theorem setallfrozen_int (B : Nat) (g : Option Nat) (ks : List Int) (R : Nat → Option RecO) (X : Nat → Option ScxO) (w : World) (h : Repint w R X) (hg : GAtI w B g ks) (hbB : B ≤ w.heap.size) (hl : ks.length ≤ 1000000000) (b : Nat) (o : ScxO) (ho : X b = some o) :
    Calls Try.prog 74 #[pv (some b), gvI g] w fun e w' => e = .returned (.tuple #[]) ∧ StepI B g w w' (ks ++ [2]) (fun k => k = b) ∧ Repint w' R (upd X b { o with frozen := true }) := by
  have C := mark_store_true B g ks b 8 152 _ w hg hbB hl (h.scx b o ho) (by decide) (by decide) (u32b o.frozen) rfl
  have HS : ∀ w', StepI B g w w' (ks ++ [2]) (fun k => k = b) → Blk w' b 152 (o.cells.set 8 (.int .u32 1)) → Repint w' R (upd X b { o with frozen := true }) := fun w' hs hb => by
    exact h.setScx tys_int hg ho hs hb
  have HC := Lib.hid C
  have HS' := Lib.hid HS
  clear C HS h hg
  show Calls Try.prog 74 #[.pointer (some ⟨b, 0, none⟩), gvI g] w _
  go_enter Try.func74, Try.ntmps74
  go_wp2_with fail
  refine HC.out.mono ?_
  rintro e w1 ⟨rfl, H, hb⟩
  have H2 := Lib.hid (HS'.out w1 H hb)
  have H1 := Lib.hid H
  clear H HC HS' hb
  go_wp2
  go_end0
  exact ⟨rfl, H1.out, H2.out⟩

set_option maxHeartbeats 400000 in
theorem state_int (B : Nat) (g : Option Nat) (ks : List Int) (R : Nat → Option RecO) (X : Nat → Option ScxO) (w : World) (h : Repint w R X) (hg : GAtI w B g ks) (hbB : B ≤ w.heap.size) (hl : ks.length ≤ 1000000000) (b : Nat) (o : ScxO) (ho : X b = some o) (n0 : 0 ≤ o.state) (n1 : o.state ≤ 1000) :
    Calls Try.prog 99 #[pv (some b), gvI g] w fun e w' => e = .returned (.int .i64 o.state) ∧ StepI B g w w' (ks ++ [1]) (fun _ => False) ∧ Repint w' R X := by
  have C := num_load B g ks b 7 152 _ w hg hbB hl (h.scx b o ho) (by decide) (by decide) o.state n0 n1 rfl
  have HS := fun w' hs => h.step tys_int hg (w' := w') (ks' := ks ++ [1]) hs
  clear h hg
  show Calls Try.prog 99 #[.pointer (some ⟨b, 0, none⟩), gvI g] w _
  have HC := Lib.hid C
  have HS' := Lib.hid HS
  clear C HS
  go_enter Try.func99, Try.ntmps99
  go_wp2_with fail
  refine HC.out.mono ?_
  rintro e w1 ⟨rfl, H⟩
  have H2 := Lib.hid (HS'.out w1 H)
  have H1 := Lib.hid H
  clear H HC HS'
  go_wp2
  go_ret
  exact ⟨rfl, H1.out, H2.out⟩

set_option maxHeartbeats 400000 in
theorem getn_int (R : Nat → Option RecO) (X : Nat → Option ScxO) (w : World) (h : Repint w R X)  (b : Nat) (o : RecO) (ho : R b = some o) (i : Int) (i0 : 0 ≤ i) (i1 : i < o.fields.length) :
    Calls Try.prog 94 #[pv (some b), .nilIface, .int .i64 i] w fun e w' => e = .returned (pv (o.fields.getD i.toNat none)) ∧ w = w' := by
  have hc : w.cell? ⟨b, 1, none⟩ = some (.slice (some ⟨o.fb, 0, none⟩) o.fields.length o.fields.length) := h.cell ho 0
  have hlt : i.toNat < o.fields.length := by omega
  have hx0 : o.fields[i.toNat]? = some (o.fields.getD i.toNat none) := by simp [List.getD_eq_getElem?_getD, List.getElem?_eq_getElem hlt]
  have hx : (o.fields.map pv)[i.toNat]? = some (pv (o.fields.getD i.toNat none)) := by rw [List.getElem?_map, hx0]; rfl
  have C := cell_loadn_Recordint o.fb i.toNat 170 _ w (h.fld b o ho) _ hx (h.recPtr (h.okField ho hx0))
  generalize o.fields.getD i.toNat none = p at *
  have HC := Lib.hid C
  clear C h hx hx0
  show Calls Try.prog 94 #[.pointer (some ⟨b, 0, none⟩), .nilIface, .int .i64 i] w _
  go_enter Try.func94, Try.ntmps94
  go_wp2_with fail
  refine HC.out.mono ?_
  rintro e w1 ⟨rfl, rfl⟩
  clear HC
  go_wp2
  go_ret
  exact ⟨rfl, rfl⟩

set_option maxHeartbeats 400000 in
theorem infon_int (R : Nat → Option RecO) (X : Nat → Option ScxO) (w : World) (h : Repint w R X)  (b : Nat) (o : RecO) (ho : R b = some o) :
    Calls Try.prog 71 #[pv (some b), .nilIface] w fun e w' => e = .returned (pv o.info) ∧ w = w' := by
  have C := cell_loadn_Scxint b 2 178 _ w (h.recs b o ho).1 o.info (h.at_ ho 1) (h.scxPtr (h.okInfo ho))
  have HC := Lib.hid C
  clear C h
  show Calls Try.prog 71 #[.pointer (some ⟨b, 0, none⟩), .nilIface] w _
  go_enter Try.func71, Try.ntmps71
  go_wp2_with fail
  refine HC.out.mono ?_
  rintro e w1 ⟨rfl, rfl⟩
  clear HC
  go_wp2
  go_ret
  exact ⟨rfl, rfl⟩

set_option maxHeartbeats 400000 in
theorem staten_int (R : Nat → Option RecO) (X : Nat → Option ScxO) (w : World) (h : Repint w R X)  (b : Nat) (o : ScxO) (ho : X b = some o) (n0 : 0 ≤ o.state) (n1 : o.state ≤ 1000) :
    Calls Try.prog 99 #[pv (some b), .nilIface] w fun e w' => e = .returned (.int .i64 o.state) ∧ w = w' := by
  have C := num_loadn b 7 152 _ w (h.scx b o ho) o.state n0 n1 rfl
  have HC := Lib.hid C
  clear C h
  show Calls Try.prog 99 #[.pointer (some ⟨b, 0, none⟩), .nilIface] w _
  go_enter Try.func99, Try.ntmps99
  go_wp2_with fail
  refine HC.out.mono ?_
  rintro e w1 ⟨rfl, rfl⟩
  clear HC
  go_wp2
  go_ret
  exact ⟨rfl, rfl⟩

set_option maxHeartbeats 400000 in
theorem markedn_false_int (R : Nat → Option RecO) (X : Nat → Option ScxO) (w : World) (h : Repint w R X)  (b : Nat) (o : RecO) (ho : R b = some o) (hm : o.mark = false) :
    Calls Try.prog 97 #[pv (some b), .nilIface] w fun e w' => e = .returned (.bool false) ∧ w = w' := by
  have C := mark_loadn_false b 3 178 _ w (h.recs b o ho).1 (by rw [show 3 = 1 + 2 from rfl, h.at_ ho 2]; simp [RecO.tail, u32b, hm])
  have HC := Lib.hid C
  clear C h hm
  show Calls Try.prog 97 #[.pointer (some ⟨b, 0, none⟩), .nilIface] w _
  go_enter Try.func97, Try.ntmps97
  go_wp2_with fail
  refine HC.out.mono ?_
  rintro e w1 ⟨rfl, rfl⟩
  clear HC
  go_wp2
  go_ret
  exact ⟨rfl, rfl⟩

set_option maxHeartbeats 400000 in
theorem allfrozenn_false_int (R : Nat → Option RecO) (X : Nat → Option ScxO) (w : World) (h : Repint w R X)  (b : Nat) (o : ScxO) (ho : X b = some o) (hm : o.frozen = false) :
    Calls Try.prog 72 #[pv (some b), .nilIface] w fun e w' => e = .returned (.bool false) ∧ w = w' := by
  have C := mark_loadn_false b 8 152 _ w (h.scx b o ho) (by simp [ScxO.cells, u32b, hm])
  have HC := Lib.hid C
  clear C h hm
  show Calls Try.prog 72 #[.pointer (some ⟨b, 0, none⟩), .nilIface] w _
  go_enter Try.func72, Try.ntmps72
  go_wp2_with fail
  refine HC.out.mono ?_
  rintro e w1 ⟨rfl, rfl⟩
  clear HC
  go_wp2
  go_ret
  exact ⟨rfl, rfl⟩

set_option maxHeartbeats 400000 in
theorem markedn_true_int (R : Nat → Option RecO) (X : Nat → Option ScxO) (w : World) (h : Repint w R X)  (b : Nat) (o : RecO) (ho : R b = some o) (hm : o.mark = true) :
    Calls Try.prog 97 #[pv (some b), .nilIface] w fun e w' => e = .returned (.bool true) ∧ w = w' := by
  have C := mark_loadn_true b 3 178 _ w (h.recs b o ho).1 (by rw [show 3 = 1 + 2 from rfl, h.at_ ho 2]; simp [RecO.tail, u32b, hm])
  have HC := Lib.hid C
  clear C h hm
  show Calls Try.prog 97 #[.pointer (some ⟨b, 0, none⟩), .nilIface] w _
  go_enter Try.func97, Try.ntmps97
  go_wp2_with fail
  refine HC.out.mono ?_
  rintro e w1 ⟨rfl, rfl⟩
  clear HC
  go_wp2
  go_ret
  exact ⟨rfl, rfl⟩

set_option maxHeartbeats 400000 in
theorem allfrozenn_true_int (R : Nat → Option RecO) (X : Nat → Option ScxO) (w : World) (h : Repint w R X)  (b : Nat) (o : ScxO) (ho : X b = some o) (hm : o.frozen = true) :
    Calls Try.prog 72 #[pv (some b), .nilIface] w fun e w' => e = .returned (.bool true) ∧ w = w' := by
  have C := mark_loadn_true b 8 152 _ w (h.scx b o ho) (by simp [ScxO.cells, u32b, hm])
  have HC := Lib.hid C
  clear C h hm
  show Calls Try.prog 72 #[.pointer (some ⟨b, 0, none⟩), .nilIface] w _
  go_enter Try.func72, Try.ntmps72
  go_wp2_with fail
  refine HC.out.mono ?_
  rintro e w1 ⟨rfl, rfl⟩
  clear HC
  go_wp2
  go_ret
  exact ⟨rfl, rfl⟩

abbrev RepL12thing := Rep 124 2 191 141
theorem tys_L12thing : Tys 124 191 141 TT ti := ⟨by decide, by decide, by decide, by decide, by decide, by decide, by decide, by decide, by decide⟩

set_option maxHeartbeats 400000 in
theorem len_L12thing (R : Nat → Option RecO) (X : Nat → Option ScxO) (w : World) (h : RepL12thing w R X) (b : Nat) (o : RecO) (ho : R b = some o) :
    Calls Try.prog 49 #[pv (some b)] w fun e w' => e = .returned (.int .i64 o.fields.length) ∧ w = w' := by
  have hc : w.cell? ⟨b, 2, none⟩ = some (.slice (some ⟨o.fb, 0, none⟩) o.fields.length o.fields.length) := h.cell ho 0
  show Calls Try.prog 49 #[.pointer (some ⟨b, 0, none⟩)] w _
  go_enter Try.func49, Try.ntmps49
  go_wp2
  go_ret
  exact ⟨rfl, rfl⟩

set_option maxHeartbeats 400000 in
theorem get_L12thing (B : Nat) (g : Option Nat) (ks : List Int) (R : Nat → Option RecO) (X : Nat → Option ScxO) (w : World) (h : RepL12thing w R X) (hg : GAtI w B g ks) (hbB : B ≤ w.heap.size) (hl : ks.length ≤ 1000000000) (b : Nat) (o : RecO) (ho : R b = some o) (i : Int) (i0 : 0 ≤ i) (i1 : i < o.fields.length) :
    Calls Try.prog 50 #[pv (some b), gvI g, .int .i64 i] w fun e w' => e = .returned (pv (o.fields.getD i.toNat none)) ∧ StepI B g w w' (ks ++ [1]) (fun _ => False) ∧ RepL12thing w' R X := by
  have hc : w.cell? ⟨b, 2, none⟩ = some (.slice (some ⟨o.fb, 0, none⟩) o.fields.length o.fields.length) := h.cell ho 0
  have hlt : i.toNat < o.fields.length := by omega
  have hx0 : o.fields[i.toNat]? = some (o.fields.getD i.toNat none) := by simp [List.getD_eq_getElem?_getD, List.getElem?_eq_getElem hlt]
  have hx : (o.fields.map pv)[i.toNat]? = some (pv (o.fields.getD i.toNat none)) := by rw [List.getElem?_map, hx0]; rfl
  have C := cell_load_RecordL12thing B g ks o.fb i.toNat 191 _ w hg hbB hl (h.fld b o ho) (by decide) (by decide) _ hx (h.recPtr (h.okField ho hx0))
  have HS := fun w' hs => h.step tys_L12thing hg (w' := w') (ks' := ks ++ [1]) hs
  generalize o.fields.getD i.toNat none = p at *
  clear hx hx0 h hg
  show Calls Try.prog 50 #[.pointer (some ⟨b, 0, none⟩), gvI g, .int .i64 i] w _
  have HC := Lib.hid C
  have HS' := Lib.hid HS
  clear C HS
  go_enter Try.func50, Try.ntmps50
  go_wp2_with fail
  refine HC.out.mono ?_
  rintro e w1 ⟨rfl, H⟩
  have H2 := Lib.hid (HS'.out w1 H)
  have H1 := Lib.hid H
  clear H HC HS'
  go_wp2
  go_ret
  exact ⟨rfl, H1.out, H2.out⟩

set_option maxHeartbeats 400000 in
theorem swing_L12thing (B : Nat) (g : Option Nat) (ks : List Int) (R : Nat → Option RecO) (X : Nat → Option ScxO) (w : World) (h : RepL12thing w R X) (hg : GAtI w B g ks) (hbB : B ≤ w.heap.size) (hl : ks.length ≤ 1000000000) (b : Nat) (o : RecO) (ho : R b = some o) (i : Int) (i0 : 0 ≤ i) (i1 : i < o.fields.length) (x y : Option Nat) (hx : Ok R x) (hy : Ok R y) :
    Calls Try.prog 55 #[pv (some b), gvI g, .int .i64 i, pv x, pv y] w fun e w' => e = .returned (.bool (decide (o.fields.getD i.toNat none = x))) ∧ StepI B g w w' (ks ++ [5]) (fun k => k = o.fb) ∧
      RepL12thing w' (upd R b { o with fields := if o.fields.getD i.toNat none = x then o.fields.set i.toNat y else o.fields }) X := by
  have hc : w.cell? ⟨b, 2, none⟩ = some (.slice (some ⟨o.fb, 0, none⟩) o.fields.length o.fields.length) := h.cell ho 0
  have hlt : i.toNat < o.fields.length := by omega
  have hx0 : o.fields[i.toNat]? = some (o.fields.getD i.toNat none) := by simp [List.getD_eq_getElem?_getD, List.getElem?_eq_getElem hlt]
  have hx1 : (o.fields.map pv)[i.toNat]? = some (pv (o.fields.getD i.toNat none)) := by rw [List.getElem?_map, hx0]; rfl
  have C := cell_cas_RecordL12thing B g ks o.fb i.toNat 191 _ w hg hbB hl (h.fld b o ho) (by decide) (by decide) _ x y hx1 (h.recPtr (h.okField ho hx0)) (h.recPtr hx) (h.recPtr hy)
  have HS : ∀ w', StepI B g w w' (ks ++ [5]) (fun k => k = o.fb) → Blk w' o.fb 191 (if o.fields.getD i.toNat none = x then (o.fields.map pv).set i.toNat (pv y) else o.fields.map pv) →
      RepL12thing w' (upd R b { o with fields := if o.fields.getD i.toNat none = x then o.fields.set i.toNat y else o.fields }) X := fun w' hs hb => by
    refine h.setFields tys_L12thing hg ho hs ?_ ?_ ?_
    · split <;> simp
    · split at hb
      · rw [if_pos ‹_›, List.map_set]; exact hb
      · rw [if_neg ‹_›]; exact hb
    · intro z hz
      split at hz
      · rcases List.mem_or_eq_of_mem_set hz with hz | hz
        · exact h.kf b o ho z hz
        · exact hy z hz.symm
      · exact h.kf b o ho z hz
  generalize o.fields.getD i.toNat none = p at *
  clear hx hx0 hx1 hy h hg
  show Calls Try.prog 55 #[.pointer (some ⟨b, 0, none⟩), gvI g, .int .i64 i, pv x, pv y] w _
  refine calls_hide fun Q HQ => ?_
  have HQ' := Lib.hid HQ
  clear HQ
  have HC := Lib.hid C
  have HS' := Lib.hid HS
  clear C HS
  go_enter Try.func55, Try.ntmps55
  go_wp2_with fail
  refine HC.out.mono ?_
  rintro e w1 ⟨rfl, H, hb⟩
  have H2 := Lib.hid (HS'.out w1 H hb)
  have H1 := Lib.hid H
  clear H HC HS' hb
  go_wp2
  exact HQ'.out _ _ ⟨rfl, H1.out, H2.out⟩

set_option maxHeartbeats 400000 in
theorem info_L12thing (B : Nat) (g : Option Nat) (ks : List Int) (R : Nat → Option RecO) (X : Nat → Option ScxO) (w : World) (h : RepL12thing w R X) (hg : GAtI w B g ks) (hbB : B ≤ w.heap.size) (hl : ks.length ≤ 1000000000) (b : Nat) (o : RecO) (ho : R b = some o) :
    Calls Try.prog 52 #[pv (some b), gvI g] w fun e w' => e = .returned (pv o.info) ∧ StepI B g w w' (ks ++ [1]) (fun _ => False) ∧ RepL12thing w' R X := by
  have C := cell_load_ScxL12thing B g ks b 3 124 _ w hg hbB hl (h.recs b o ho).1 (by decide) (by decide) o.info (h.at_ ho 1) (h.scxPtr (h.okInfo ho))
  have HS := fun w' hs => h.step tys_L12thing hg (w' := w') (ks' := ks ++ [1]) hs
  clear h hg
  show Calls Try.prog 52 #[.pointer (some ⟨b, 0, none⟩), gvI g] w _
  have HC := Lib.hid C
  have HS' := Lib.hid HS
  clear C HS
  go_enter Try.func52, Try.ntmps52
  go_wp2_with fail
  refine HC.out.mono ?_
  rintro e w1 ⟨rfl, H⟩
  have H2 := Lib.hid (HS'.out w1 H)
  have H1 := Lib.hid H
  clear H HC HS'
  go_wp2
  go_ret
  exact ⟨rfl, H1.out, H2.out⟩

set_option maxHeartbeats 400000 in
theorem freeze_L12thing (B : Nat) (g : Option Nat) (ks : List Int) (R : Nat → Option RecO) (X : Nat → Option ScxO) (w : World) (h : RepL12thing w R X) (hg : GAtI w B g ks) (hbB : B ≤ w.heap.size) (hl : ks.length ≤ 1000000000) (b : Nat) (o : RecO) (ho : R b = some o) (x y : Option Nat) (hx : Ok X x) (hy : Ok X y) :
    Calls Try.prog 57 #[pv (some b), gvI g, pv x, pv y] w fun e w' => e = .returned (.bool (decide (o.info = x))) ∧ StepI B g w w' (ks ++ [5]) (fun k => k = b) ∧
      RepL12thing w' (upd R b { o with info := if o.info = x then y else o.info }) X := by
  have C := cell_cas_ScxL12thing B g ks b 3 124 _ w hg hbB hl (h.recs b o ho).1 (by decide) (by decide) o.info x y (h.at_ ho 1) (h.scxPtr (h.okInfo ho)) (h.scxPtr hx) (h.scxPtr hy)
  have HS : ∀ w', StepI B g w w' (ks ++ [5]) (fun k => k = b) → Blk w' b 124 (if o.info = x then o.cells.set 3 (pv y) else o.cells) →
      RepL12thing w' (upd R b { o with info := if o.info = x then y else o.info }) X := fun w' hs hb => by
    refine h.setRec tys_L12thing hg ho hs rfl rfl rfl ?_ ?_
    · split at hb
      · rw [if_pos ‹_›]
        rw [show 3 = 2 + 1 from rfl, o.set_tail (h.recs b o ho).2] at hb
        exact hb
      · rw [if_neg ‹_›]; exact hb
    · show Ok X (if o.info = x then y else o.info)
      split
      · exact hy
      · exact h.okInfo ho
  clear hx hy h hg
  show Calls Try.prog 57 #[.pointer (some ⟨b, 0, none⟩), gvI g, pv x, pv y] w _
  refine calls_hide fun Q HQ => ?_
  have HQ' := Lib.hid HQ
  clear HQ
  have HC := Lib.hid C
  have HS' := Lib.hid HS
  clear C HS
  go_enter Try.func57, Try.ntmps57
  go_wp2_with fail
  refine HC.out.mono ?_
  rintro e w1 ⟨rfl, H, hb⟩
  have H2 := Lib.hid (HS'.out w1 H hb)
  have H1 := Lib.hid H
  clear H HC HS' hb
  go_wp2
  exact HQ'.out _ _ ⟨rfl, H1.out, H2.out⟩

set_option maxHeartbeats 400000 in
theorem marked_L12thing (B : Nat) (g : Option Nat) (ks : List Int) (R : Nat → Option RecO) (X : Nat → Option ScxO) (w : World) (h : RepL12thing w R X) (hg : GAtI w B g ks) (hbB : B ≤ w.heap.size) (hl : ks.length ≤ 1000000000) (b : Nat) (o : RecO) (ho : R b = some o) :
    Calls Try.prog 51 #[pv (some b), gvI g] w fun e w' => e = .returned (.bool o.mark) ∧ StepI B g w w' (ks ++ [1]) (fun _ => False) ∧ RepL12thing w' R X := by
  have HS := fun w' hs => h.step tys_L12thing hg (w' := w') (ks' := ks ++ [1]) hs
  have HS' := Lib.hid HS
  clear HS
  cases hm : o.mark with
  | false =>
    have C := mark_load_false B g ks b 4 124 _ w hg hbB hl (h.recs b o ho).1 (by decide) (by decide) (by rw [show 4 = 2 + 2 from rfl, h.at_ ho 2]; simp [RecO.tail, ScxO.cells, u32b, hm])
    have HC := Lib.hid C
    clear C h hg hm
    show Calls Try.prog 51 #[.pointer (some ⟨b, 0, none⟩), gvI g] w _
    go_enter Try.func51, Try.ntmps51
    go_wp2_with fail
    refine HC.out.mono ?_
    rintro e w1 ⟨rfl, H⟩
    have H2 := Lib.hid (HS'.out w1 H)
    have H1 := Lib.hid H
    clear H HC HS'
    go_wp2
    go_ret
    exact ⟨rfl, H1.out, H2.out⟩
  | true =>
    have C := mark_load_true B g ks b 4 124 _ w hg hbB hl (h.recs b o ho).1 (by decide) (by decide) (by rw [show 4 = 2 + 2 from rfl, h.at_ ho 2]; simp [RecO.tail, ScxO.cells, u32b, hm])
    have HC := Lib.hid C
    clear C h hg hm
    show Calls Try.prog 51 #[.pointer (some ⟨b, 0, none⟩), gvI g] w _
    go_enter Try.func51, Try.ntmps51
    go_wp2_with fail
    refine HC.out.mono ?_
    rintro e w1 ⟨rfl, H⟩
    have H2 := Lib.hid (HS'.out w1 H)
    have H1 := Lib.hid H
    clear H HC HS'
    go_wp2
    go_ret
    exact ⟨rfl, H1.out, H2.out⟩

set_option maxHeartbeats 400000 in
theorem allfrozen_L12thing (B : Nat) (g : Option Nat) (ks : List Int) (R : Nat → Option RecO) (X : Nat → Option ScxO) (w : World) (h : RepL12thing w R X) (hg : GAtI w B g ks) (hbB : B ≤ w.heap.size) (hl : ks.length ≤ 1000000000) (b : Nat) (o : ScxO) (ho : X b = some o) :
    Calls Try.prog 54 #[pv (some b), gvI g] w fun e w' => e = .returned (.bool o.frozen) ∧ StepI B g w w' (ks ++ [1]) (fun _ => False) ∧ RepL12thing w' R X := by
  have HS := fun w' hs => h.step tys_L12thing hg (w' := w') (ks' := ks ++ [1]) hs
  have HS' := Lib.hid HS
  clear HS
  cases hm : o.frozen with
  | false =>
    have C := mark_load_false B g ks b 8 141 _ w hg hbB hl (h.scx b o ho) (by decide) (by decide) (by simp [RecO.tail, ScxO.cells, u32b, hm])
    have HC := Lib.hid C
    clear C h hg hm
    show Calls Try.prog 54 #[.pointer (some ⟨b, 0, none⟩), gvI g] w _
    go_enter Try.func54, Try.ntmps54
    go_wp2_with fail
    refine HC.out.mono ?_
    rintro e w1 ⟨rfl, H⟩
    have H2 := Lib.hid (HS'.out w1 H)
    have H1 := Lib.hid H
    clear H HC HS'
    go_wp2
    go_ret
    exact ⟨rfl, H1.out, H2.out⟩
  | true =>
    have C := mark_load_true B g ks b 8 141 _ w hg hbB hl (h.scx b o ho) (by decide) (by decide) (by simp [RecO.tail, ScxO.cells, u32b, hm])
    have HC := Lib.hid C
    clear C h hg hm
    show Calls Try.prog 54 #[.pointer (some ⟨b, 0, none⟩), gvI g] w _
    go_enter Try.func54, Try.ntmps54
    go_wp2_with fail
    refine HC.out.mono ?_
    rintro e w1 ⟨rfl, H⟩
    have H2 := Lib.hid (HS'.out w1 H)
    have H1 := Lib.hid H
    clear H HC HS'
    go_wp2
    go_ret
    exact ⟨rfl, H1.out, H2.out⟩

set_option maxHeartbeats 400000 in
theorem mark_L12thing (B : Nat) (g : Option Nat) (ks : List Int) (R : Nat → Option RecO) (X : Nat → Option ScxO) (w : World) (h : RepL12thing w R X) (hg : GAtI w B g ks) (hbB : B ≤ w.heap.size) (hl : ks.length ≤ 1000000000) (b : Nat) (o : RecO) (ho : R b = some o) :
    Calls Try.prog 58 #[pv (some b), gvI g] w fun e w' => e = .returned (.tuple #[]) ∧ StepI B g w w' (ks ++ [2]) (fun k => k = b) ∧ RepL12thing w' (upd R b { o with mark := true }) X := by
  have C := mark_store_true B g ks b 4 124 _ w hg hbB hl (h.recs b o ho).1 (by decide) (by decide) _ (h.at_ ho 2)
  have HS : ∀ w', StepI B g w w' (ks ++ [2]) (fun k => k = b) → Blk w' b 124 (o.cells.set 4 (.int .u32 1)) → RepL12thing w' (upd R b { o with mark := true }) X := fun w' hs hb => by
    refine h.setRec tys_L12thing hg ho hs rfl rfl rfl ?_ (fun x e => h.ki b o ho x e)
    rw [show 4 = 2 + 2 from rfl, o.set_tail (h.recs b o ho).2] at hb
    exact hb
  have HC := Lib.hid C
  have HS' := Lib.hid HS
  clear C HS h hg
  show Calls Try.prog 58 #[.pointer (some ⟨b, 0, none⟩), gvI g] w _
  go_enter Try.func58, Try.ntmps58
  go_wp2_with fail
  refine HC.out.mono ?_
  rintro e w1 ⟨rfl, H, hb⟩
  have H2 := Lib.hid (HS'.out w1 H hb)
  have H1 := Lib.hid H
  clear H HC HS' hb
  go_wp2
  go_end0
  exact ⟨rfl, H1.out, H2.out⟩

set_option maxHeartbeats 400000 in
theorem commit_L12thing (B : Nat) (g : Option Nat) (ks : List Int) (R : Nat → Option RecO) (X : Nat → Option ScxO) (w : World) (h : RepL12thing w R X) (hg : GAtI w B g ks) (hbB : B ≤ w.heap.size) (hl : ks.length ≤ 1000000000) (b : Nat) (o : ScxO) (ho : X b = some o) :
    Calls Try.prog 60 #[pv (some b), gvI g] w fun e w' => e = .returned (.tuple #[]) ∧ StepI B g w w' (ks ++ [2]) (fun k => k = b) ∧ RepL12thing w' R (upd X b { o with state := 1 }) := by
  have C := num_store B g ks b 7 141 _ w hg hbB hl (h.scx b o ho) (by decide) (by decide) 1 (by decide) (by decide) (.int .i64 o.state) rfl
  have HS : ∀ w', StepI B g w w' (ks ++ [2]) (fun k => k = b) → Blk w' b 141 (o.cells.set 7 (.int .i64 1)) → RepL12thing w' R (upd X b { o with state := 1 }) := fun w' hs hb => by
    exact h.setScx tys_L12thing hg ho hs hb
  have HC := Lib.hid C
  have HS' := Lib.hid HS
  clear C HS h hg
  show Calls Try.prog 60 #[.pointer (some ⟨b, 0, none⟩), gvI g] w _
  go_enter Try.func60, Try.ntmps60
  go_wp2_with fail
  refine HC.out.mono ?_
  rintro e w1 ⟨rfl, H, hb⟩
  have H2 := Lib.hid (HS'.out w1 H hb)
  have H1 := Lib.hid H
  clear H HC HS' hb
  go_wp2
  go_end0
  exact ⟨rfl, H1.out, H2.out⟩

set_option maxHeartbeats 400000 in
theorem abort_L12thing (B : Nat) (g : Option Nat) (ks : List Int) (R : Nat → Option RecO) (X : Nat → Option ScxO) (w : World) (h : RepL12thing w R X) (hg : GAtI w B g ks) (hbB : B ≤ w.heap.size) (hl : ks.length ≤ 1000000000) (b : Nat) (o : ScxO) (ho : X b = some o) :
    Calls Try.prog 59 #[pv (some b), gvI g] w fun e w' => e = .returned (.tuple #[]) ∧ StepI B g w w' (ks ++ [2]) (fun k => k = b) ∧ RepL12thing w' R (upd X b { o with state := 2 }) := by
  have C := num_store B g ks b 7 141 _ w hg hbB hl (h.scx b o ho) (by decide) (by decide) 2 (by decide) (by decide) (.int .i64 o.state) rfl
  have HS : ∀ w', StepI B g w w' (ks ++ [2]) (fun k => k = b) → Blk w' b 141 (o.cells.set 7 (.int .i64 2)) → RepL12thing w' R (upd X b { o with state := 2 }) := fun w' hs hb => by
    exact h.setScx tys_L12thing hg ho hs hb
  have HC := Lib.hid C
  have HS' := Lib.hid HS
  clear C HS h hg
  show Calls Try.prog 59 #[.pointer (some ⟨b, 0, none⟩), gvI g] w _
  go_enter Try.func59, Try.ntmps59
  go_wp2_with fail
  refine HC.out.mono ?_
  rintro e w1 ⟨rfl, H, hb⟩
  have H2 := Lib.hid (HS'.out w1 H hb)
  have H1 := Lib.hid H
  clear H HC HS' hb
  go_wp2
  go_end0
  exact ⟨rfl, H1.out, H2.out⟩

set_option maxHeartbeats 400000 in
theorem setallfrozen_L12thing (B : Nat) (g : Option Nat) (ks : List Int) (R : Nat → Option RecO) (X : Nat → Option ScxO) (w : World) (h : RepL12thing w R X) (hg : GAtI w B g ks) (hbB : B ≤ w.heap.size) (hl : ks.length ≤ 1000000000) (b : Nat) (o : ScxO) (ho : X b = some o) :
    Calls Try.prog 61 #[pv (some b), gvI g] w fun e w' => e = .returned (.tuple #[]) ∧ StepI B g w w' (ks ++ [2]) (fun k => k = b) ∧ RepL12thing w' R (upd X b { o with frozen := true }) := by
  have C := mark_store_true B g ks b 8 141 _ w hg hbB hl (h.scx b o ho) (by decide) (by decide) (u32b o.frozen) rfl
  have HS : ∀ w', StepI B g w w' (ks ++ [2]) (fun k => k = b) → Blk w' b 141 (o.cells.set 8 (.int .u32 1)) → RepL12thing w' R (upd X b { o with frozen := true }) := fun w' hs hb => by
    exact h.setScx tys_L12thing hg ho hs hb
  have HC := Lib.hid C
  have HS' := Lib.hid HS
  clear C HS h hg
  show Calls Try.prog 61 #[.pointer (some ⟨b, 0, none⟩), gvI g] w _
  go_enter Try.func61, Try.ntmps61
  go_wp2_with fail
  refine HC.out.mono ?_
  rintro e w1 ⟨rfl, H, hb⟩
  have H2 := Lib.hid (HS'.out w1 H hb)
  have H1 := Lib.hid H
  clear H HC HS' hb
  go_wp2
  go_end0
  exact ⟨rfl, H1.out, H2.out⟩

set_option maxHeartbeats 400000 in
theorem state_L12thing (B : Nat) (g : Option Nat) (ks : List Int) (R : Nat → Option RecO) (X : Nat → Option ScxO) (w : World) (h : RepL12thing w R X) (hg : GAtI w B g ks) (hbB : B ≤ w.heap.size) (hl : ks.length ≤ 1000000000) (b : Nat) (o : ScxO) (ho : X b = some o) (n0 : 0 ≤ o.state) (n1 : o.state ≤ 1000) :
    Calls Try.prog 53 #[pv (some b), gvI g] w fun e w' => e = .returned (.int .i64 o.state) ∧ StepI B g w w' (ks ++ [1]) (fun _ => False) ∧ RepL12thing w' R X := by
  have C := num_load B g ks b 7 141 _ w hg hbB hl (h.scx b o ho) (by decide) (by decide) o.state n0 n1 rfl
  have HS := fun w' hs => h.step tys_L12thing hg (w' := w') (ks' := ks ++ [1]) hs
  clear h hg
  show Calls Try.prog 53 #[.pointer (some ⟨b, 0, none⟩), gvI g] w _
  have HC := Lib.hid C
  have HS' := Lib.hid HS
  clear C HS
  go_enter Try.func53, Try.ntmps53
  go_wp2_with fail
  refine HC.out.mono ?_
  rintro e w1 ⟨rfl, H⟩
  have H2 := Lib.hid (HS'.out w1 H)
  have H1 := Lib.hid H
  clear H HC HS'
  go_wp2
  go_ret
  exact ⟨rfl, H1.out, H2.out⟩

set_option maxHeartbeats 400000 in
theorem getn_L12thing (R : Nat → Option RecO) (X : Nat → Option ScxO) (w : World) (h : RepL12thing w R X)  (b : Nat) (o : RecO) (ho : R b = some o) (i : Int) (i0 : 0 ≤ i) (i1 : i < o.fields.length) :
    Calls Try.prog 50 #[pv (some b), .nilIface, .int .i64 i] w fun e w' => e = .returned (pv (o.fields.getD i.toNat none)) ∧ w = w' := by
  have hc : w.cell? ⟨b, 2, none⟩ = some (.slice (some ⟨o.fb, 0, none⟩) o.fields.length o.fields.length) := h.cell ho 0
  have hlt : i.toNat < o.fields.length := by omega
  have hx0 : o.fields[i.toNat]? = some (o.fields.getD i.toNat none) := by simp [List.getD_eq_getElem?_getD, List.getElem?_eq_getElem hlt]
  have hx : (o.fields.map pv)[i.toNat]? = some (pv (o.fields.getD i.toNat none)) := by rw [List.getElem?_map, hx0]; rfl
  have C := cell_loadn_RecordL12thing o.fb i.toNat 191 _ w (h.fld b o ho) _ hx (h.recPtr (h.okField ho hx0))
  generalize o.fields.getD i.toNat none = p at *
  have HC := Lib.hid C
  clear C h hx hx0
  show Calls Try.prog 50 #[.pointer (some ⟨b, 0, none⟩), .nilIface, .int .i64 i] w _
  go_enter Try.func50, Try.ntmps50
  go_wp2_with fail
  refine HC.out.mono ?_
  rintro e w1 ⟨rfl, rfl⟩
  clear HC
  go_wp2
  go_ret
  exact ⟨rfl, rfl⟩

set_option maxHeartbeats 400000 in
theorem infon_L12thing (R : Nat → Option RecO) (X : Nat → Option ScxO) (w : World) (h : RepL12thing w R X)  (b : Nat) (o : RecO) (ho : R b = some o) :
    Calls Try.prog 52 #[pv (some b), .nilIface] w fun e w' => e = .returned (pv o.info) ∧ w = w' := by
  have C := cell_loadn_ScxL12thing b 3 124 _ w (h.recs b o ho).1 o.info (h.at_ ho 1) (h.scxPtr (h.okInfo ho))
  have HC := Lib.hid C
  clear C h
  show Calls Try.prog 52 #[.pointer (some ⟨b, 0, none⟩), .nilIface] w _
  go_enter Try.func52, Try.ntmps52
  go_wp2_with fail
  refine HC.out.mono ?_
  rintro e w1 ⟨rfl, rfl⟩
  clear HC
  go_wp2
  go_ret
  exact ⟨rfl, rfl⟩

set_option maxHeartbeats 400000 in
theorem staten_L12thing (R : Nat → Option RecO) (X : Nat → Option ScxO) (w : World) (h : RepL12thing w R X)  (b : Nat) (o : ScxO) (ho : X b = some o) (n0 : 0 ≤ o.state) (n1 : o.state ≤ 1000) :
    Calls Try.prog 53 #[pv (some b), .nilIface] w fun e w' => e = .returned (.int .i64 o.state) ∧ w = w' := by
  have C := num_loadn b 7 141 _ w (h.scx b o ho) o.state n0 n1 rfl
  have HC := Lib.hid C
  clear C h
  show Calls Try.prog 53 #[.pointer (some ⟨b, 0, none⟩), .nilIface] w _
  go_enter Try.func53, Try.ntmps53
  go_wp2_with fail
  refine HC.out.mono ?_
  rintro e w1 ⟨rfl, rfl⟩
  clear HC
  go_wp2
  go_ret
  exact ⟨rfl, rfl⟩

set_option maxHeartbeats 400000 in
theorem markedn_false_L12thing (R : Nat → Option RecO) (X : Nat → Option ScxO) (w : World) (h : RepL12thing w R X)  (b : Nat) (o : RecO) (ho : R b = some o) (hm : o.mark = false) :
    Calls Try.prog 51 #[pv (some b), .nilIface] w fun e w' => e = .returned (.bool false) ∧ w = w' := by
  have C := mark_loadn_false b 4 124 _ w (h.recs b o ho).1 (by rw [show 4 = 2 + 2 from rfl, h.at_ ho 2]; simp [RecO.tail, u32b, hm])
  have HC := Lib.hid C
  clear C h hm
  show Calls Try.prog 51 #[.pointer (some ⟨b, 0, none⟩), .nilIface] w _
  go_enter Try.func51, Try.ntmps51
  go_wp2_with fail
  refine HC.out.mono ?_
  rintro e w1 ⟨rfl, rfl⟩
  clear HC
  go_wp2
  go_ret
  exact ⟨rfl, rfl⟩

set_option maxHeartbeats 400000 in
theorem allfrozenn_false_L12thing (R : Nat → Option RecO) (X : Nat → Option ScxO) (w : World) (h : RepL12thing w R X)  (b : Nat) (o : ScxO) (ho : X b = some o) (hm : o.frozen = false) :
    Calls Try.prog 54 #[pv (some b), .nilIface] w fun e w' => e = .returned (.bool false) ∧ w = w' := by
  have C := mark_loadn_false b 8 141 _ w (h.scx b o ho) (by simp [ScxO.cells, u32b, hm])
  have HC := Lib.hid C
  clear C h hm
  show Calls Try.prog 54 #[.pointer (some ⟨b, 0, none⟩), .nilIface] w _
  go_enter Try.func54, Try.ntmps54
  go_wp2_with fail
  refine HC.out.mono ?_
  rintro e w1 ⟨rfl, rfl⟩
  clear HC
  go_wp2
  go_ret
  exact ⟨rfl, rfl⟩

set_option maxHeartbeats 400000 in
theorem markedn_true_L12thing (R : Nat → Option RecO) (X : Nat → Option ScxO) (w : World) (h : RepL12thing w R X)  (b : Nat) (o : RecO) (ho : R b = some o) (hm : o.mark = true) :
    Calls Try.prog 51 #[pv (some b), .nilIface] w fun e w' => e = .returned (.bool true) ∧ w = w' := by
  have C := mark_loadn_true b 4 124 _ w (h.recs b o ho).1 (by rw [show 4 = 2 + 2 from rfl, h.at_ ho 2]; simp [RecO.tail, u32b, hm])
  have HC := Lib.hid C
  clear C h hm
  show Calls Try.prog 51 #[.pointer (some ⟨b, 0, none⟩), .nilIface] w _
  go_enter Try.func51, Try.ntmps51
  go_wp2_with fail
  refine HC.out.mono ?_
  rintro e w1 ⟨rfl, rfl⟩
  clear HC
  go_wp2
  go_ret
  exact ⟨rfl, rfl⟩

set_option maxHeartbeats 400000 in
theorem allfrozenn_true_L12thing (R : Nat → Option RecO) (X : Nat → Option ScxO) (w : World) (h : RepL12thing w R X)  (b : Nat) (o : ScxO) (ho : X b = some o) (hm : o.frozen = true) :
    Calls Try.prog 54 #[pv (some b), .nilIface] w fun e w' => e = .returned (.bool true) ∧ w = w' := by
  have C := mark_loadn_true b 8 141 _ w (h.scx b o ho) (by simp [ScxO.cells, u32b, hm])
  have HC := Lib.hid C
  clear C h hm
  show Calls Try.prog 54 #[.pointer (some ⟨b, 0, none⟩), .nilIface] w _
  go_enter Try.func54, Try.ntmps54
  go_wp2_with fail
  refine HC.out.mono ?_
  rintro e w1 ⟨rfl, rfl⟩
  clear HC
  go_wp2
  go_ret
  exact ⟨rfl, rfl⟩
end Go.Proofs.Ytphhdmopfmelbaa
