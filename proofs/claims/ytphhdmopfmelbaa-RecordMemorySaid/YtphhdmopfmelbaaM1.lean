/- Joined texts: Base Gate Cell Heap Rec Sl New NewScx Idx Made World. -/
import Derived.WalkKit
import Derived.WalkSpells
import Derived.WalkLawsBesides
import Derived.Test.YtphhdmopfmelbaaWMore
import Derived.Test.YtphhdmopfmelbaaRows
import Derived.Deep.RegionWith
import Derived.Lib.Hide

/-
  Plain facts on blocks of memory: what a block holds, which blocks a step may have written, a tape that notes numbers. No program in sight.
-/
namespace Go.Proofs.Ytphhdmopfmelbaa
open Go.RowKit

/-- The post behind a letter: the walk can't look into it. -/
theorem calls_hide {P : Program} {f : FuncId} {args : Array Value} {w : World} {R : Ending → World → Prop} (h : ∀ Q : Ending → World → Prop, (∀ e w', R e w' → Q e w') → Calls P f args w Q) : Calls P f args w R := h R (fun _ _ x => x)

theorem calls_swap {P : Program} {f : FuncId} {args : Array Value} {w : World} {v : Value} (h : Calls P f args w fun e w' => e = .returned v ∧ w = w') : Calls P f args w fun e w' => e = .returned v ∧ w' = w := h.mono fun _ _ h => ⟨h.1, h.2.symm⟩

/-- Block b is a row of the cells xs of element type T, none frozen. -/
def Blk (w : World) (b : Nat) (T : TypeId) (xs : List Value) : Prop := w.heap[b]? = some (.cells xs.toArray T (0, 0))

section
variable {w w' : World} {b T : Nat} {xs : List Value}
theorem Blk.lt (h : Blk w b T xs) : b < w.heap.size := (Array.getElem?_eq_some_iff.1 h).1
theorem Blk.cell (h : Blk w b T xs) (i : Nat) : w.cell? ⟨b, i, none⟩ = xs[i]? := by
  rw [cell_of_row w b i xs.toArray T (0, 0) h]; simp
theorem Blk.free (h : Blk w b T xs) (a : Addr) (ha : a.block = b) : w.frozen? a = false := by
  subst ha
  unfold World.frozen?
  have h' : w.heap[a.block]? = _ := h
  rw [h']; simp
theorem Blk.same (h : Blk w b T xs) (hs : w'.heap[b]? = w.heap[b]?) : Blk w' b T xs := hs.trans h
theorem Blk.set (h : Blk w b T xs) (i : Nat) (v : Value) : Blk (w.setCell ⟨b, i, none⟩ v) b T (xs.set i v) := by
  have h' : w.heap[b]? = _ := h
  simp [Blk, World.setCell, Array.getElem?_modify, h', List.setIfInBounds_toArray]
theorem Blk.other (h : Blk w b T xs) (a : Addr) (v : Value) (hne : b ≠ a.block) : Blk (w.setCell a v) b T xs :=
  h.same (Below.heap_setCell w a v b hne)
theorem Blk.alloc (h : Blk w b T xs) (o : Obj) : Blk (w.alloc o) b T xs := h.same (Below.heap_alloc w o b h.lt)
theorem Blk.new (w : World) (T : Nat) (xs : List Value) : Blk (w.alloc (.cells xs.toArray T)) w.heap.size T xs := heap_alloc_new w _
theorem Blk.drew (h : Blk w b T xs) : Blk w.drew b T xs := h
theorem Blk.inj {T' : Nat} {ys : List Value} (h : Blk w b T xs) (k : Blk w b T' ys) : T = T' ∧ xs = ys := by
  have := (Option.some.inj (h.symm.trans k))
  injection this with h1 h2
  exact ⟨h2, by simpa using congrArg Array.toList h1⟩
theorem Blk.below (h : Blk w b T xs) {B : Nat} (hb : Below B w w') (hB : b < B) : Blk w' b T xs := h.same (hb.block b hB)
end

/-- From w to w': of w's blocks none but S may have turned; the streams are as they were. -/
structure Fr (w w' : World) (S : Nat → Prop) : Prop where
  os : w'.os = w.os
  tape : w'.tape = w.tape
  output : w'.output = w.output
  size : w.heap.size ≤ w'.heap.size
  block : ∀ k, k < w.heap.size → ¬ S k → w'.heap[k]? = w.heap[k]?

section
variable {a b c w w' : World} {S S' : Nat → Prop}
theorem Fr.refl (w : World) (S : Nat → Prop) : Fr w w S := ⟨rfl, rfl, rfl, Nat.le_refl _, fun _ _ _ => rfl⟩
theorem Fr.mono (h : Fr a b S) (hs : ∀ k, k < a.heap.size → S k → S' k) : Fr a b S' :=
  ⟨h.os, h.tape, h.output, h.size, fun k hk hn => h.block k hk (fun s => hn (hs k hk s))⟩
theorem Fr.trans (h : Fr a b S) (k : Fr b c S') (hs : ∀ i, i < a.heap.size → S' i → S i) : Fr a c S :=
  ⟨k.os.trans h.os, k.tape.trans h.tape, k.output.trans h.output, Nat.le_trans h.size k.size,
    fun i hi hn => (k.block i (Nat.lt_of_lt_of_le hi h.size) (fun s => hn (hs i hi s))).trans (h.block i hi hn)⟩
theorem Fr.below (h : Fr a b S) {B : Nat} (hB : B ≤ a.heap.size) (hs : ∀ k, S k → B ≤ k) : Below B a b :=
  ⟨h.os, h.tape, h.output, h.size, fun k hk => h.block k (by omega) (fun s => by have := hs k s; omega)⟩
theorem Fr.of_below {B : Nat} (h : Below B a b) : Fr a b (fun k => B ≤ k) :=
  ⟨h.os, h.tape, h.output, h.size, fun k _ hn => h.block k (by omega)⟩
theorem Fr.of_below0 (h : Below a.heap.size a b) : Fr a b S :=
  ⟨h.os, h.tape, h.output, h.size, fun k hk _ => h.block k hk⟩
theorem Fr.of_grown {row : Option Nat} (h : a.grownBy b row) : Fr a b (fun k => some k = row) :=
  ⟨h.os, h.tape, h.output, h.size, fun k hk hn => h.block k hk hn⟩
theorem Fr.alloc (h : Fr a b S) (o : Obj) : Fr a (b.alloc o) S :=
  h.trans (S' := fun _ => False) ⟨rfl, rfl, rfl, by simp, fun k hk _ => Below.heap_alloc _ _ _ hk⟩ (fun _ _ s => s.elim)
theorem Fr.drew (h : Fr a b S) : Fr a b.drew S := ⟨h.os, h.tape, h.output, h.size, h.block⟩
theorem Fr.setCell (h : Fr a b S) (p : Addr) (u : Value) (hp : p.block < a.heap.size → S p.block) : Fr a (b.setCell p u) S :=
  h.trans (S' := fun k => k = p.block) ⟨rfl, rfl, rfl, by simp [World.setCell], fun k _ hn => Below.heap_setCell _ _ _ _ hn⟩ (fun i hi s => by subst s; exact hp hi)
theorem Fr.blk (h : Fr a b S) {k T : Nat} {xs : List Value} (hb : Blk a k T xs) (hn : ¬ S k) : Blk b k T xs := hb.same (h.block k hb.lt hn)
end

/-! ### A slice that the call owns -/
theorem owns_fr {w w' : World} {base : Nat} {e : TypeId} {size n : Nat} {v : Value} {xs : List Value} {S : Nat → Prop} (h : w.ownsRow base e size v n xs) (hf : Fr w w' S)
    (hn : ∀ k, v.ownBlock = some k → ¬ S k) : w'.ownsRow base e size v n xs :=
  Go.Proofs.YtphhdmopfmelbaaW.PrintWords.own_move h (fun k hk => hf.block k (World.ownsRow.lt h k hk).2 (hn k hk))
theorem owns_typed {w : World} {base : Nat} {e : TypeId} {size n : Nat} {v : Value} {xs : List Value} (h : w.ownsRow base e size v n xs) (k : Nat) (hk : v.ownBlock = some k) :
    ∃ cells, Blk w k e cells := by
  obtain ⟨cells, hc⟩ := Go.Proofs.YtphhdmopfmelbaaW.PrintWords.own_typed h k hk
  exact ⟨cells.toList, by simpa [Blk] using hc⟩

/-! ### A tape: a block of one cell, a slice of numbers that the call owns. TT: the tape's type; 'ti': int's. -/
def TapeAt (TT ti : Nat) (w : World) (B t : Nat) (ks : List Int) : Prop :=
  ∃ v, B ≤ t ∧ Blk w t TT [v] ∧ w.ownsRow B ti 1 v ks.length (ks.map (Value.int .i64)) ∧ v.ownBlock ≠ some t
/-- The tape's own blocks. -/
def TFoot (w : World) (t k : Nat) : Prop := k = t ∨ ∃ v, w.cell? ⟨t, 0, none⟩ = some v ∧ v.ownBlock = some k

theorem TapeAt.foot {TT ti : Nat} {w : World} {B t : Nat} {ks : List Int} (h : TapeAt TT ti w B t ks) {k : Nat} (hk : TFoot w t k) :
    B ≤ k ∧ k < w.heap.size ∧ ∃ T cells, (T = TT ∨ T = ti) ∧ Blk w k T cells := by
  obtain ⟨v, hB, hb, ho, _⟩ := h
  rcases hk with rfl | ⟨v', hv', hk⟩
  · exact ⟨hB, hb.lt, _, _, .inl rfl, hb⟩
  · have : v' = v := by rw [hb.cell 0] at hv'; simpa using hv'.symm
    subst this
    obtain ⟨cells, hc⟩ := owns_typed ho k hk
    exact ⟨(World.ownsRow.lt ho k hk).1, hc.lt, _, _, .inr rfl, hc⟩
theorem TapeAt.fr {TT ti : Nat} {w w' : World} {B t : Nat} {ks : List Int} {S : Nat → Prop} (h : TapeAt TT ti w B t ks) (hf : Fr w w' S) (hn : ∀ k, TFoot w t k → ¬ S k) :
    TapeAt TT ti w' B t ks ∧ ∀ k, TFoot w' t k ↔ TFoot w t k := by
  obtain ⟨v, hB, hb, ho, hne⟩ := h
  have hb' := hf.blk hb (hn t (.inl rfl))
  have hv : w.cell? ⟨t, 0, none⟩ = some v := by rw [hb.cell 0]; rfl
  have hv' : w'.cell? ⟨t, 0, none⟩ = some v := by rw [hb'.cell 0]; rfl
  refine ⟨⟨v, hB, hb', owns_fr ho hf (fun k hk => hn k (.inr ⟨v, hv, hk⟩)), hne⟩, fun k => ?_⟩
  unfold TFoot
  rw [hv, hv']

/-! ### A gate: nil, or a tape -/
def gv (tp : Nat) : Option Nat → Value
  | none => .nilIface
  | some t => .iface tp (.pointer (some ⟨t, 0, none⟩))
def GAt (TT ti : Nat) (w : World) (B : Nat) (g : Option Nat) (ks : List Int) : Prop := ∀ t, g = some t → TapeAt TT ti w B t ks
def GFoot (w : World) (g : Option Nat) (k : Nat) : Prop := ∃ t, g = some t ∧ TFoot w t k

/-- From w to w' the gate has been passed: it has noted what makes ks' out of ks; beside the gate's own blocks S alone may have turned. -/
structure Step (TT ti B : Nat) (g : Option Nat) (w w' : World) (ks' : List Int) (S : Nat → Prop) : Prop where
  gate : GAt TT ti w' B g ks'
  fr : Fr w w' (fun k => GFoot w g k ∨ S k)
  new : ∀ k, GFoot w' g k → GFoot w g k ∨ w.heap.size ≤ k

section
variable {TT ti B : Nat} {g : Option Nat} {w w1 w2 w' : World} {ks ks1 ks2 ks' : List Int} {S S' : Nat → Prop}
theorem GAt.foot (h : GAt TT ti w B g ks) {k : Nat} (hk : GFoot w g k) : B ≤ k ∧ k < w.heap.size ∧ ∃ T cells, (T = TT ∨ T = ti) ∧ Blk w k T cells := by
  obtain ⟨t, ht, hf⟩ := hk
  exact (h t ht).foot hf
theorem GAt.apart (h : GAt TT ti w B g ks) {b T : Nat} {xs : List Value} (hb : Blk w b T xs) (h1 : T ≠ TT) (h2 : T ≠ ti) : ¬ GFoot w g b := fun hk => by
  obtain ⟨_, _, T', cells, hT, hb'⟩ := h.foot hk
  have := (hb.inj hb').1
  rcases hT with rfl | rfl <;> contradiction
theorem GAt.nil (TT ti : Nat) (w : World) (B : Nat) (ks : List Int) : GAt TT ti w B none ks := fun t h => by cases h
theorem GAt.fr (h : GAt TT ti w B g ks) (hf : Fr w w' S) (hn : ∀ k, GFoot w g k → ¬ S k) : Step TT ti B g w w' ks S :=
  ⟨fun t ht => ((h t ht).fr hf (fun k hk => hn k ⟨t, ht, hk⟩)).1, hf.mono (fun _ _ s => .inr s),
    fun k ⟨t, ht, hk⟩ => .inl ⟨t, ht, (((h t ht).fr hf (fun k hk => hn k ⟨t, ht, hk⟩)).2 k).1 hk⟩⟩
theorem Step.refl (h : GAt TT ti w B g ks) (S : Nat → Prop) : Step TT ti B g w w ks S := ⟨h, Fr.refl _ _, fun _ hk => .inl hk⟩
theorem Step.trans (h : Step TT ti B g w w1 ks1 S) (k : Step TT ti B g w1 w2 ks2 S') (hs : ∀ i, i < w.heap.size → S' i → S i) : Step TT ti B g w w2 ks2 S :=
  ⟨k.gate, h.fr.trans k.fr (fun i hi hx => by
      rcases hx with hx | hx
      · rcases h.new i hx with hx | hx
        · exact .inl hx
        · omega
      · exact .inr (hs i hi hx)),
    fun i hi => by
      rcases k.new i hi with hx | hx
      · exact h.new i hx
      · exact .inr (Nat.le_trans h.fr.size hx)⟩
theorem Step.mono (h : Step TT ti B g w w' ks' S) (hs : ∀ k, k < w.heap.size → S k → S' k) : Step TT ti B g w w' ks' S' :=
  ⟨h.gate, h.fr.mono (fun k hk => Or.imp id (hs k hk)), h.new⟩
/-- What is neither the gate's nor S's stays. -/
theorem Step.blk (h : Step TT ti B g w w' ks' S) (hg : GAt TT ti w B g ks) {b T : Nat} {xs : List Value} (hb : Blk w b T xs) (h1 : T ≠ TT) (h2 : T ≠ ti) (hn : ¬ S b) : Blk w' b T xs :=
  h.fr.blk hb (fun hx => hx.elim (hg.apart hb h1 h2) hn)
theorem Step.below (h : Step TT ti B g w w' ks' S) (hg : GAt TT ti w B g ks) (hB : B ≤ w.heap.size) (hs : ∀ k, S k → B ≤ k) : Below B w w' :=
  h.fr.below hB (fun k hk => hk.elim (fun hx => (hg.foot hx).1) (hs k))
theorem GAt.below0 (h : GAt TT ti w B g ks) (hb : Below w.heap.size w w') (S : Nat → Prop) : Step TT ti B g w w' ks S :=
  (h.fr (S := fun _ => False) (Fr.of_below0 hb) (fun _ _ hx => hx)).mono (fun _ _ hx => hx.elim)
end

theorem Step.fr0 {TT ti B : Nat} {w w' : World} {ks' : List Int} {S : Nat → Prop} (h : Step TT ti B none w w' ks' S) : Fr w w' S :=
  h.fr.mono (fun _ _ hx => hx.elim (fun ⟨_, e, _⟩ => by cases e) id)
/-! ### make([]T, n), T of one cell that begins as nil -/
def nils (n : Nat) : Array Value := (List.replicate n (.pointer none)).toArray
theorem nils_blk (w : World) (E n : Nat) : Blk (w.alloc (.cells (nils n) E)) w.heap.size E (List.replicate n (.pointer none)) := Blk.new w E _
theorem run_make_nils {P : Program} {t e : TypeId} {z : Value} {by_ : Nat} (ht : P.underlying t = some (.slice e)) (hinfo : (P.info? e).map (fun i => (i.zero, i.size, i.bytes)) = some (some z, 1, by_)) (hz : z.cells = #[.pointer none])
    (n : Nat) (hb : by_ * n ≤ 281474976710656) (h63 : n ≤ 9223372036854775807) (w : World) :
    (Instr.makeSlice t (.int .i64 (n : Int)) (.int .i64 (n : Int))).run P w = .ok (.slice (some ⟨w.heap.size, 0, none⟩) n n) (w.alloc (.cells (nils n) e)) := by
  obtain ⟨i, hi, hzz⟩ := Option.map_eq_some_iff.1 hinfo
  simp only [Prod.mk.injEq] at hzz
  obtain ⟨hz0, hs, hbb⟩ := hzz
  have hb' : (i.bytes : Int) * (n : Int) ≤ 281474976710656 := by
    rw [hbb]
    have h : ((by_ * n : Nat) : Int) ≤ 281474976710656 := by omega
    rwa [Int.natCast_mul] at h
  have hr := run_make (P := P) w t e i z ht hi hz0 .i64 .i64 n n (by omega) (Int.le_refl _) hb' (by omega)
  rw [hr]
  simp only [Int.toNat_natCast, hs, Nat.mul_one, hz]
  congr 2
  have : madeCells #[.pointer none] n = nils n := by
    apply Array.toList_inj.1
    rw [toList_madeCells_one]
    simp [nils]
  rw [this]

/-! ### Rows of one-cell elements that are read -/
/-- The slice A, n long, holds the cells us. -/
def Row1 (w : World) (A : Option Addr) (n : Nat) (us : List Value) : Prop :=
  us.length = n ∧ (0 < n → ∃ ad, A = some ad ∧ ∀ j u, us[j]? = some u → w.cell? (ad.add j) = some u)
theorem Row1.nil (w : World) : Row1 w none 0 [] := ⟨rfl, fun h => absurd h (Nat.lt_irrefl 0)⟩
theorem Row1.below {w w' : World} {A : Option Addr} {n : Nat} {us : List Value} (h : Row1 w A n us) (hb : Below w.heap.size w w') : Row1 w' A n us :=
  ⟨h.1, fun hn => let ⟨ad, e, hc⟩ := h.2 hn; ⟨ad, e, fun j u hu => Go.Proofs.YtphhdmopfmelbaaW.PrintWords.pw_cell_below hb (hc j u hu)⟩⟩
theorem Row1.of_blk {w : World} {b T : Nat} {us rest : List Value} (h : Blk w b T (us ++ rest)) : Row1 w (some ⟨b, 0, none⟩) us.length us :=
  ⟨rfl, fun _ => ⟨_, rfl, fun j u hu => by
    have hadd : (⟨b, 0, none⟩ : Addr).add j = ⟨b, j, none⟩ := by unfold Addr.add; split <;> simp_all
    rw [hadd, h.cell j, List.getElem?_append_left (List.getElem?_eq_some_iff.1 hu).1]
    exact hu⟩⟩
theorem Row1.at_ {w : World} {A : Option Addr} {n : Nat} {us : List Value} (h : Row1 w A n us) {j : Nat} {u : Value} (hu : us[j]? = some u) : ∃ ad, A = some ad ∧ w.cell? (ad.add j) = some u := by
  have := (List.getElem?_eq_some_iff.1 hu).1
  obtain ⟨ad, e, hc⟩ := h.2 (by have := h.1; omega)
  exact ⟨ad, e, hc j u hu⟩
/-- Out of a row that the call owns. -/
theorem owns_blk {w : World} {base e n : Nat} {v : Value} {us : List Value} (h : w.ownsRow base e 1 v n us) (hn : ¬ v = .slice none 0 0) : ∃ b c rest, v = .slice (some ⟨b, 0, none⟩) n c ∧ base ≤ b ∧ n ≤ c ∧ Blk w b e (us ++ rest) := by
  obtain ⟨h1, h2⟩ := h
  rcases h2 with ⟨rfl, _⟩ | ⟨g, cap, cur, rfl, hg, hh, hc, _, _, ht⟩
  · exact absurd rfl hn
  · refine ⟨g, cap, cur.toList.drop (n * 1), rfl, hg, hc, ?_⟩
    rw [← ht, List.take_append_drop]
    simpa [Blk] using hh
theorem owns_slice {w : World} {base e n : Nat} {v : Value} {us : List Value} (h : w.ownsRow base e 1 v n us) : ∃ A c, v = .slice A n c ∧ Row1 w A n us ∧ n ≤ c := by
  rcases h.2 with ⟨hv, hn⟩ | ⟨g, cap, cur, hv, _⟩
  · subst hv; subst hn
    have : us = [] := List.eq_nil_of_length_eq_zero (by have := h.1; omega)
    subst this
    exact ⟨none, 0, rfl, Row1.nil w, Nat.le_refl _⟩
  · obtain ⟨b, c, rest, hv', _, hc, hb⟩ := owns_blk h (by rw [hv]; simp)
    have hl : us.length = n := by have := h.1; omega
    refine ⟨_, c, hv', ?_, hc⟩
    rw [← hl]
    exact Row1.of_blk hb

/-! ### Pointers to the heads of blocks -/
/-- A pointer to the head of a block, or nil. -/
def hd (x : Option Nat) : Option Addr := x.map fun b => ⟨b, 0, none⟩
abbrev pv (x : Option Nat) : Value := .pointer (hd x)
theorem hd_inj {x y : Option Nat} (h : hd x = hd y) : x = y := by
  cases x <;> cases y <;> simp [hd] at h ⊢; exact h
/-- What x leads to is a block of cells. -/
def Known (w : World) (x : Option Nat) : Prop := ∀ b, x = some b → ∃ T xs, Blk w b T xs
theorem Known.none (w : World) : Known w none := fun _ h => by cases h
theorem Known.fr {w w' : World} {S : Nat → Prop} {x : Option Nat} (h : Known w x) (hf : Fr w w' S) (hn : ∀ b, x = some b → ¬ S b) : Known w' x := fun b e => by
  obtain ⟨T, xs, hb⟩ := h b e
  exact ⟨T, xs, hf.blk hb (hn b e)⟩
/-- What x leads to is a block of cells that is none of a tape's, by its type. -/
def Kn (TT ti : Nat) (w : World) (x : Option Nat) : Prop := ∀ b, x = some b → ∃ T xs, Blk w b T xs ∧ T ≠ TT ∧ T ≠ ti
theorem Kn.known {TT ti : Nat} {w : World} {x : Option Nat} (h : Kn TT ti w x) : Known w x := fun b e => let ⟨T, xs, hb, _⟩ := h b e; ⟨T, xs, hb⟩
theorem Kn.none (TT ti : Nat) (w : World) : Kn TT ti w none := fun _ h => by cases h
theorem Kn.step {TT ti B : Nat} {g : Option Nat} {w w' : World} {ks ks' : List Int} {x : Option Nat} (h : Kn TT ti w x) (hg : GAt TT ti w B g ks) (hs : Step TT ti B g w w' ks' (fun _ => False)) : Kn TT ti w' x := fun b e => by
  obtain ⟨T, xs, hb, h1, h2⟩ := h b e
  exact ⟨T, xs, hs.blk hg hb h1 h2 (fun x => x), h1, h2⟩
theorem Blk.kn {TT ti : Nat} {w : World} {b T : Nat} {xs : List Value} (h : Blk w b T xs) (h1 : T ≠ TT) (h2 : T ≠ ti) : Kn TT ti w (some b) := fun b' e => by cases e; exact ⟨_, _, h, h1, h2⟩
theorem Blk.known {w : World} {b T : Nat} {xs : List Value} (h : Blk w b T xs) : Known w (some b) := fun b' e => by cases e; exact ⟨_, _, h⟩

section
variable {P : Program} {w : World} {x : Option Nat}
theorem run_viewAt_none {b T : Nat} {xs : List Value} (h : Blk w b T xs) : (viewAt b).run P w = .ok none w := by
  have hs : w.shape? b = some (T, xs.length) := by
    have h' : w.heap[b]? = _ := h
    simp [World.shape?, h']
  simp [viewAt, hs]
theorem run_sameAddr {b c T T' : Nat} {xs ys : List Value} (hb : Blk w b T xs) (hc : Blk w c T' ys) : (sameAddr ⟨b, 0, none⟩ ⟨c, 0, none⟩).run P w = .ok (decide (b = c)) w := by
  by_cases e : b = c
  · subst e; simp [sameAddr]
  · have f1 : w.frozen? ⟨b, 0, none⟩ = false := hb.free _ rfl
    have f3 : ∀ n, w.frozen? ⟨b, n, none⟩ = false := fun n => hb.free _ rfl
    have f4 : ∀ n, w.frozen? ⟨c, n, none⟩ = false := fun n => hc.free _ rfl
    have s1 : w.shape? b = some (T, xs.length) := by
      have h' : w.heap[b]? = _ := hb
      simp [World.shape?, h']
    have s2 : w.shape? c = some (T', ys.length) := by
      have h' : w.heap[c]? = _ := hc
      simp [World.shape?, h']
    have v1 := run_viewAt_none (P := P) hb
    have v2 := run_viewAt_none (P := P) hc
    simp [sameAddr, e, f1, noView, mayBeOne, stringish, f3, f4, s1, s2, v1, v2, Result.andThen]
theorem run_samePointer {x y : Option Nat} (hx : Known w x) (hy : Known w y) : (samePointer (hd x) (hd y)).run P w = .ok (decide (x = y)) w := by
  cases x with
  | none => cases y <;> simp [hd, samePointer]
  | some b =>
    cases y with
    | none => simp [hd, samePointer]
    | some c =>
      obtain ⟨T, xs, hb⟩ := hx b rfl
      obtain ⟨T', ys, hc⟩ := hy c rfl
      have := run_sameAddr (P := P) hb hc
      simpa [hd, samePointer] using this
/-- What x leads to is one variable of type u, sz cells, at the head of a block of its own. -/
def PtrTo (u sz : Nat) (w : World) (x : Option Nat) : Prop := ∀ b, x = some b → ∃ xs, Blk w b u xs ∧ xs.length = sz
theorem PtrTo.none (u sz : Nat) (w : World) : PtrTo u sz w none := fun _ h => by cases h
theorem PtrTo.known {u sz : Nat} (h : PtrTo u sz w x) : Known w x := fun b e => let ⟨xs, hb, _⟩ := h b e; ⟨u, xs, hb⟩
theorem PtrTo.kn {u sz TT ti : Nat} (h : PtrTo u sz w x) (h1 : u ≠ TT) (h2 : u ≠ ti) : Kn TT ti w x := fun b e => let ⟨xs, hb, _⟩ := h b e; ⟨u, xs, hb, h1, h2⟩
theorem PtrTo.step {u sz TT ti B : Nat} {g : Option Nat} {w' : World} {ks ks' : List Int} (h : PtrTo u sz w x) (hg : GAt TT ti w B g ks) (hs : Step TT ti B g w w' ks' (fun _ => False)) (h1 : u ≠ TT) (h2 : u ≠ ti) : PtrTo u sz w' x := fun b e => by
  obtain ⟨xs, hb, hl⟩ := h b e
  exact ⟨xs, hs.blk hg hb h1 h2 (fun x => x), hl⟩
theorem Blk.ptr {u : Nat} {b : Nat} {xs : List Value} (h : Blk w b u xs) : PtrTo u xs.length w (some b) := fun b' e => by cases e; exact ⟨xs, h, rfl⟩
/-- A closed fact on the type's layout. -/
def LiesOne (P : Program) (u sz : Nat) : Prop := liesAt P P.depth u (sz / P.cellsOf u) 0 u 1 = true
theorem run_seenAt {b T o : Nat} {xs : List Value} (h : Blk w b T xs) : (Conv.seenAt ⟨b, o, none⟩).run P w = .ok ⟨b, o, none⟩ w := by
  simp [Conv.seenAt, run_viewAt_none (P := P) h]
theorem Blk.shape {b T : Nat} {xs : List Value} (h : Blk w b T xs) : w.shape? b = some (T, xs.length) := by
  have h' : w.heap[b]? = _ := h
  simp [World.shape?, h']
/-- unsafe.Pointer(p). -/
theorem run_to_unsafe {src dst u sz : TypeId} (hs : P.underlying src = some (.pointer u)) (hdd : P.underlying dst = some .unsafePointer) (hsz : (P.info? u).map (fun i => decide (i.size = 0)) = some false) (hz : 0 < sz)
    {x : Option Nat} (hx : PtrTo u sz w x) : (convert src dst (pv x)).run P w = .ok (pv x) w := by
  cases x with
  | none =>
    show (convert src dst (.pointer none)).run P w = _
    simp [convert, Conv.unsafePointer, run_underlying hs, run_underlying hdd, hd]
  | some b =>
    obtain ⟨xs, hb, hl⟩ := hx b rfl
    have hc : ∃ v, w.cell? ⟨b, 0, none⟩ = some v := by
      rw [hb.cell 0]
      cases xs with
      | nil => exact absurd hl (Nat.ne_of_lt hz)
      | cons v r => exact ⟨v, rfl⟩
    obtain ⟨v, hc⟩ := hc
    exact run_convert_to_unsafe hs hdd hsz hc
/-- ( *T )(p) of an unsafe.Pointer that leads to a T. -/
theorem run_from_unsafe {src dst u sz : TypeId} (hs : P.underlying src = some .unsafePointer) (hdd : P.underlying dst = some (.pointer u)) (hsz : (P.info? u).map (fun i => decide (i.size = 0)) = some false)
    (hlies : LiesOne P u sz) {x : Option Nat} (hx : PtrTo u sz w x) : (convert src dst (pv x)).run P w = .ok (pv x) w := by
  obtain ⟨i, hi, hz0⟩ := Option.map_eq_some_iff.1 hsz
  have hz : i.size ≠ 0 := by simpa using hz0
  cases x with
  | none =>
    show (convert src dst (.pointer none)).run P w = _
    simp [convert, Conv.unsafePointer, run_underlying hs, run_underlying hdd, hd]
  | some b =>
    obtain ⟨xs, hb, hl⟩ := hx b rfl
    subst hl
    unfold LiesOne at hlies
    show (convert src dst (.pointer (some ⟨b, 0, none⟩))).run P w = _
    simp [convert, Conv.unsafePointer, run_underlying hs, run_underlying hdd, run_seenAt (P := P) hb, sizeOf, typeInfo, hi, hz, variablesAt, hb.shape, hlies, Result.andThen, hd]
/-- sync/atomic.LoadPointer, LoadInt64, LoadUint32. -/
theorem run_call_load_ptr {f : FuncId} {fn : Func} (hf : P.funcs[f]? = some fn) (hname : (fn.name == "runtime.NumGoroutine") = false) (hb : fn.body.isNone = true) (hn : Extern.findNext fn = none)
    (he : Extern.find fn = some (Extern.Atomic.loadT .ptr)) {a : Addr} {p : Option Addr} (hc : w.cell? a = some (.pointer p)) :
    (callFunc f #[.pointer (some a)]).run P w = .ok (.value (.pointer p)) w := by
  rw [run_callFunc_extern hf hname hb hn he]
  change (Sem.run P (do Extern.Atomic.read .ptr (← asAddr (.pointer (some a)))) w).andThen _ = _
  simp [Extern.Atomic.read, asAddr, hc, Result.andThen]
theorem run_call_load_int {f : FuncId} {fn : Func} (hf : P.funcs[f]? = some fn) (hname : (fn.name == "runtime.NumGoroutine") = false) (hb : fn.body.isNone = true) (hn : Extern.findNext fn = none) (k : IntKind)
    (he : Extern.find fn = some (Extern.Atomic.loadT (.int k))) {a : Addr} {n : Int} (hc : w.cell? a = some (.int k n)) :
    (callFunc f #[.pointer (some a)]).run P w = .ok (.value (.int k n)) w := by
  rw [run_callFunc_extern hf hname hb hn he]
  change (Sem.run P (do Extern.Atomic.read (.int k) (← asAddr (.pointer (some a)))) w).andThen _ = _
  simp [Extern.Atomic.read, asAddr, hc, Result.andThen]
/-- sync/atomic.StorePointer, StoreInt64, StoreUint32. -/
theorem run_call_store {f : FuncId} {fn : Func} (hf : P.funcs[f]? = some fn) (hname : (fn.name == "runtime.NumGoroutine") = false) (hb : fn.body.isNone = true) (hn : Extern.findNext fn = none)
    (he : Extern.find fn = some Extern.Atomic.storeT) {a : Addr} {u v : Value} (hc : w.cell? a = some u) (hz : w.frozen? a = false) (h1 : v.oneCell' = true) :
    (callFunc f #[.pointer (some a), v]).run P w = .ok (.value (.tuple #[])) (w.setCell a v) := by
  rw [run_callFunc_extern hf hname hb hn he]
  change (Sem.run P (do
    store (← asAddr (.pointer (some a))) v .atomic
    pure Extern.Atomic.none_) w).andThen _ = _
  simp [asAddr, hc, hz, run_store P w _ v .atomic h1, Result.andThen, Extern.Atomic.none_]
/-- sync/atomic.CompareAndSwapPointer of a cell that holds a pointer to a block's head, or nil. -/
theorem run_call_cas_ptr {f : FuncId} {fn : Func} (hf : P.funcs[f]? = some fn) (hname : (fn.name == "runtime.NumGoroutine") = false) (hb : fn.body.isNone = true) (hn : Extern.findNext fn = none)
    (he : Extern.find fn = some (Extern.Atomic.casT .ptr)) {b o T : Nat} {xs : List Value} (hB : Blk w b T xs) {c x : Option Nat} {y : Option Addr} (hc : xs[o]? = some (pv c)) (kc : Known w c) (kx : Known w x) :
    (callFunc f #[.pointer (some ⟨b, o, none⟩), pv x, .pointer y]).run P w = .ok (.value (.bool (decide (c = x)))) (if c = x then w.setCell ⟨b, o, none⟩ (.pointer y) else w) := by
  have hcell : w.cell? ⟨b, o, none⟩ = some (pv c) := by rw [hB.cell o]; exact hc
  have hz : w.frozen? ⟨b, o, none⟩ = false := hB.free _ rfl
  have hv := run_viewAt_none (P := P) hB
  have hs := run_samePointer (P := P) kc kx
  rw [run_callFunc_extern hf hname hb hn he]
  change (Sem.run P (do
    let a' ← asAddr (.pointer (some ⟨b, o, none⟩))
    if ← Extern.Atomic.touchesFrozen a' then unsupported (.unsafePointer "a write to bytes that a string shares")
    let eq ← match Extern.Atomic.T.ptr, ← Extern.Atomic.read .ptr a', pv x with
      | _, .int _ x, .int _ y => pure (x == y)
      | .ptr, .pointer x, .pointer y => samePointer x y
      | .int _, .pointer (some _), .int _ 0 | .int _, .int _ 0, .pointer (some _) => pure false
      | .int _, .pointer (some _), _ | .int _, _, .pointer (some _) => unsupported .addressObserved
      | _, _, _ => stuck "atomic.CompareAndSwap: old is no T"
    if eq then store a' (.pointer y) .atomic
    pure (Value.bool eq)) w).andThen _ = _
  by_cases e : c = x
  · subst e
    simp [Extern.Atomic.touchesFrozen, Extern.Atomic.read, asAddr, hv, hcell, hz, hs, run_store P w _ (.pointer y) .atomic rfl, Result.andThen]
  · simp [Extern.Atomic.touchesFrozen, Extern.Atomic.read, asAddr, hv, hcell, hz, hs, e, Result.andThen]
theorem run_equalIn_ptr (d : Nat) {t el : TypeId} {i : TypeInfo} (ht : P.underlying t = some (.pointer el)) (hi : P.info? el = some i) (hsz : i.size ≠ 0) {x y : Option Nat} (hx : Known w x) (hy : Known w y) :
    (Op.equalIn (d + 1) t (pv x) (pv y)).run P w = .ok (decide (x = y)) w := by
  show (Op.equalIn (d + 1) t (.pointer (hd x)) (.pointer (hd y))).run P w = _
  cases x with
  | none => cases y <;> simp [hd, Op.equalIn, run_underlying ht]
  | some b =>
    cases y with
    | none => simp [hd, Op.equalIn, run_underlying ht]
    | some c =>
      obtain ⟨T, xs, hb⟩ := hx b rfl
      obtain ⟨T', ys, hc⟩ := hy c rfl
      have := run_sameAddr (P := P) hb hc
      simp [hd, Op.equalIn, run_underlying ht, sizeOf, typeInfo, hi, hsz, this]
/-- p == q, of one pointer type whose things have a size. -/
theorem run_eql_ptr {t el : TypeId} {i : TypeInfo} (ht : P.underlying t = some (.pointer el)) (hi : P.info? el = some i) (hsz : i.size ≠ 0) {x y : Option Nat} (hx : Known w x) (hy : Known w y) :
    (binOp .eql t (pv x) (pv y)).run P w = .ok (.bool (decide (x = y))) w := by
  simp only [binOp]
  simp [Op.equal, Op.maxDepth, run_equalIn_ptr 9999 ht hi hsz hx hy]
theorem run_neq_ptr {t el : TypeId} {i : TypeInfo} (ht : P.underlying t = some (.pointer el)) (hi : P.info? el = some i) (hsz : i.size ≠ 0) {x y : Option Nat} (hx : Known w x) (hy : Known w y) :
    (binOp .neq t (pv x) (pv y)).run P w = .ok (.bool (decide (x ≠ y))) w := by
  simp only [binOp]
  simp [Op.equal, Op.maxDepth, run_equalIn_ptr 9999 ht hi hsz hx hy]
end
end Go.Proofs.Ytphhdmopfmelbaa

/- The gate is passed: nil, or a tape. -/
namespace Go.Proofs.Ytphhdmopfmelbaa
open Go.RowKit Go.Proofs.YtphhdmopfmelbaaW.PrintWords

theorem tinfo_int : (Try.prog.info? 3).map (fun i => (i.zero, i.size, i.bytes)) = some (some (.int .i64 0), 1, 8) := by kernel_rfl
theorem method_pass (a : Addr) (w : World) : (method 357 58 (.pointer (some a)) "Pass").run Try.prog w = .ok (160, .pointer (some a)) w := by kernel_rfl

abbrev TapeI := TapeAt 102 3
abbrev StepI := Step 102 3
abbrev GAtI := GAt 102 3
abbrev gvI := gv 58

/-- What a tape's note does to the memory. -/
theorem tape_note {B t : Nat} {ks : List Int} {k : Int} {w w1 : World} {v v' : Value} (hB : B ≤ t) (hb : Blk w t 102 [v]) (hne : v.ownBlock ≠ some t)
    (ho' : w1.ownsRow B 3 1 v' (ks.length + 1) (ks.map (Value.int .i64) ++ [.int .i64 k])) (hg : w.grownBy w1 v.ownBlock)
    (hnew : v'.ownBlock = v.ownBlock ∨ ∃ b, v'.ownBlock = some b ∧ w.heap.size ≤ b) :
    StepI B (some t) w (w1.setCell ⟨t, 0, none⟩ v') (ks ++ [k]) (fun _ => False) := by
  have hb1 : Blk w1 t 102 [v] := hb.same (hg.block t hb.lt (fun e => hne e.symm))
  have hv : w.cell? ⟨t, 0, none⟩ = some v := by rw [hb.cell 0]; rfl
  have hb2 : Blk (w1.setCell ⟨t, 0, none⟩ v') t 102 [v'] := hb1.set 0 v'
  have hnew' : ∀ b, v'.ownBlock = some b → v.ownBlock = some b ∨ w.heap.size ≤ b := by
    intro b hb
    rcases hnew with h | ⟨b', h, h'⟩
    · exact .inl (h ▸ hb)
    · rw [h] at hb; injection hb with hb; exact .inr (by omega)
  have hne' : v'.ownBlock ≠ some t := fun e => by
    rcases hnew' t e with h | h
    · exact hne h
    · have := hb.lt; omega
  refine ⟨fun t' ht' => ?_, ?_, fun i hi => ?_⟩
  · obtain rfl : t = t' := by simpa using ht'
    refine ⟨v', hB, hb2, ?_, hne'⟩
    have h3 := owns_fr ho' ((Fr.refl w1 (fun k => k = t)).setCell ⟨t, 0, none⟩ v' (fun _ => rfl)) (fun i hi hx => hne' (by rw [hi]; rw [hx]))
    simpa using h3
  · have h1 : Fr w w1 (fun k => GFoot w (some t) k ∨ False) :=
      (Fr.of_grown hg).mono (fun i _ hi => .inl ⟨t, rfl, .inr ⟨v, hv, hi.symm⟩⟩)
    exact h1.setCell ⟨t, 0, none⟩ v' (fun _ => .inl ⟨t, rfl, .inl rfl⟩)
  · obtain ⟨t', ht', hi⟩ := hi
    obtain rfl : t = t' := by simpa using ht'
    rcases hi with rfl | ⟨x, hx, hi⟩
    · exact .inl ⟨_, rfl, .inl rfl⟩
    · rw [hb2.cell 0] at hx
      obtain rfl : v' = x := by simpa using hx
      rcases hnew' i hi with h | h
      · exact .inl ⟨_, rfl, .inr ⟨v, hv, h⟩⟩
      · exact .inr h

set_option maxHeartbeats 400000 in
theorem tape_pass (B t : Nat) (ks : List Int) (k : Int) (w : World) (h : TapeI w B t ks) (hbB : B ≤ w.heap.size) (hl : ks.length ≤ 1000000000) :
    Calls Try.prog 160 #[.pointer (some ⟨t, 0, none⟩), .int .i64 k] w fun e w' => e = .returned (.tuple #[]) ∧ StepI B (some t) w w' (ks ++ [k]) (fun _ => False) := by
  obtain ⟨v, hB, hb, ho, hne⟩ := h
  have hv : w.cell? ⟨t, 0, none⟩ = some v := by rw [hb.cell 0]; rfl
  go_enter Try.func160, Try.ntmps160
  go_wp2_with (at_builtin; refine print_append_cells B rfl _ _ 23 3 (.int .i64 0) 1 8 rfl Try.underlying23 tinfo_int rfl (by decide) (by decide) v ks.length _ [.int .i64 k] rfl rfl rfl (by simp [Value.oneCell']) ho (Below.refl _ _) hbB (by omega) ?_)
  intro v1 w1 hown1 hb1 hg1 hat1
  have H := tape_note hB hb hne hown1 hg1 hat1
  have hb1 : Blk w1 t 102 [v] := hb.same (hg1.block t hb.lt (fun e => hne e.symm))
  have hc1 : w1.cell? ⟨t, 0, none⟩ = some v := by rw [hb1.cell 0]; rfl
  have hf1 : w1.frozen? ⟨t, 0, none⟩ = false := hb1.free _ rfl
  have hex : ∃ A c, v1 = .slice A (ks.length + 1) c := by
    rcases hown1.2 with ⟨h, _⟩ | ⟨g, cap, cur, h, _⟩
    · exact ⟨_, _, by rw [h]; congr 1; omega⟩
    · exact ⟨_, _, h⟩
  clear hown1 hg1 hat1 hb1 hv ho hb
  obtain ⟨A, c, hv1⟩ := hex
  rw [hv1] at H ⊢
  go_wp2
  go_end0
  exact ⟨rfl, H⟩

set_option maxHeartbeats 400000 in
theorem pass_nil (k : Int) (w : World) : Calls Try.prog 119 #[.nilIface, .int .i64 k] w fun e w' => e = .returned (.tuple #[]) ∧ w = w' := by
  go_enter Try.func119, Try.ntmps119
  go_wp2
  go_end0
  exact ⟨rfl, rfl⟩
set_option maxHeartbeats 400000 in
theorem pass_any (B : Nat) (g : Option Nat) (ks : List Int) (k : Int) (w : World) (h : GAtI w B g ks) (hbB : B ≤ w.heap.size) (hl : ks.length ≤ 1000000000) :
    Calls Try.prog 119 #[gvI g, .int .i64 k] w fun e w' => e = .returned (.tuple #[]) ∧ StepI B g w w' (ks ++ [k]) (fun _ => False) := by
  cases g with
  | none =>
    have H : StepI B none w w (ks ++ [k]) (fun _ => False) := Step.refl (GAt.nil _ _ _ _ _) _
    show Calls Try.prog 119 #[.nilIface, .int .i64 k] w _
    clear h
    go_enter Try.func119, Try.ntmps119
    go_wp2
    go_end0
    exact ⟨rfl, H⟩
  | some t =>
    have h' := h t rfl
    have hm := method_pass
    show Calls Try.prog 119 #[.iface 58 (.pointer (some ⟨t, 0, none⟩)), .int .i64 k] w _
    go_enter Try.func119, Try.ntmps119
    go_wp2_with fail
    refine (tape_pass B t ks k w h' hbB hl).mono ?_
    rintro e w' ⟨rfl, H⟩
    clear h h'
    go_wp2
    go_end0
    exact ⟨rfl, H⟩
end Go.Proofs.Ytphhdmopfmelbaa

/- Cells, numbers, marks: each access by a gate (nil or a tape). Written by mk.py. -/
namespace Go.Proofs.Ytphhdmopfmelbaa
open Go.RowKit Go.Proofs.YtphhdmopfmelbaaW.PrintWords
abbrev TT : Nat := 102
abbrev ti : Nat := 3
set_option linter.unusedVariables false

theorem lies_Recordint : LiesOne Try.prog 178 4 := by unfold LiesOne; kernel_rfl
theorem size_Recordint : (Try.prog.info? 178).map (fun i => decide (i.size = 0)) = some false := by kernel_rfl

set_option maxHeartbeats 400000 in
theorem cell_load_Recordint (B : Nat) (g : Option Nat) (ks : List Int) (b o T : Nat) (xs : List Value) (w : World) (h : GAtI w B g ks) (hbB : B ≤ w.heap.size) (hl : ks.length ≤ 1000000000) (hb : Blk w b T xs) (h1 : T ≠ TT) (h2 : T ≠ ti) (p : Option Nat) (hx : xs[o]? = some (pv p)) (hp : PtrTo 178 4 w p) :
    Calls Try.prog 124 #[.pointer (some ⟨b, o, none⟩), gvI g] w fun e w' => e = .returned (pv p) ∧ StepI B g w w' (ks ++ [1]) (fun _ => False) := by
  go_enter Try.func124, Try.ntmps124
  go_wp2_with fail
  refine (pass_any B g ks 1 w h hbB hl).mono ?_
  rintro e w1 ⟨rfl, H⟩
  have hb1 := H.blk h hb h1 h2 (fun x => x)
  have hgt := H.gate
  have hto := fun (x : Option Nat) (hx : PtrTo 178 4 w1 x) => run_to_unsafe (P := Try.prog) (src := 150) (dst := 113) Try.underlying150 Try.underlying113 size_Recordint (by decide) hx
  have hfr := fun (x : Option Nat) (hx : PtrTo 178 4 w1 x) => run_from_unsafe (P := Try.prog) (src := 113) (dst := 150) Try.underlying113 Try.underlying150 size_Recordint lies_Recordint hx
  have hk := hfr p (hp.step h H (by decide) (by decide))
  clear hto hfr hp

  have hc1 : w1.cell? ⟨b, o, none⟩ = some (pv p) := by rw [hb1.cell o]; exact hx
  have hrun := run_call_load_ptr (P := Try.prog) Try.func141 (by kernel_rfl) (by kernel_rfl) (by kernel_rfl) (by kernel_rfl) hc1
  clear h hb hb1 hgt h1 h2 hx hl hbB
  go_wp2
  go_ret
  exact ⟨rfl, H⟩

set_option maxHeartbeats 400000 in
theorem cell_store_Recordint (B : Nat) (g : Option Nat) (ks : List Int) (b o T : Nat) (xs : List Value) (w : World) (h : GAtI w B g ks) (hbB : B ≤ w.heap.size) (hl : ks.length ≤ 1000000000) (hb : Blk w b T xs) (h1 : T ≠ TT) (h2 : T ≠ ti) (p : Option Nat) (u : Value) (hx : xs[o]? = some u) (hp : PtrTo 178 4 w p) :
    Calls Try.prog 88 #[.pointer (some ⟨b, o, none⟩), gvI g, pv p] w fun e w' => e = .returned (.tuple #[]) ∧ StepI B g w w' (ks ++ [2]) (fun k => k = b) ∧ Blk w' b T (xs.set o (pv p)) := by
  go_enter Try.func88, Try.ntmps88
  go_wp2_with fail
  refine (pass_any B g ks 2 w h hbB hl).mono ?_
  rintro e w1 ⟨rfl, H⟩
  have hb1 := H.blk h hb h1 h2 (fun x => x)
  have hgt := H.gate
  have hto := fun (x : Option Nat) (hx : PtrTo 178 4 w1 x) => run_to_unsafe (P := Try.prog) (src := 150) (dst := 113) Try.underlying150 Try.underlying113 size_Recordint (by decide) hx
  have hfr := fun (x : Option Nat) (hx : PtrTo 178 4 w1 x) => run_from_unsafe (P := Try.prog) (src := 113) (dst := 150) Try.underlying113 Try.underlying150 size_Recordint lies_Recordint hx
  have hk := hto p (hp.step h H (by decide) (by decide))
  clear hto hfr hp

  have hc1 : w1.cell? ⟨b, o, none⟩ = some u := by rw [hb1.cell o]; exact hx
  have hf1 : w1.frozen? ⟨b, o, none⟩ = false := hb1.free _ rfl
  have hrun := run_call_store (P := Try.prog) Try.func139 (by kernel_rfl) (by kernel_rfl) (by kernel_rfl) (by kernel_rfl) hc1 hf1 (v := pv p) rfl
  have hB := hb1.set o (pv p)
  have H2 : StepI B g w (w1.setCell ⟨b, o, none⟩ (pv p)) (ks ++ [2]) (fun k => k = b) :=
    (H.mono (S' := fun k => k = b) (fun _ _ x => x.elim)).trans (hgt.fr ((Fr.refl w1 (fun k => k = b)).setCell _ _ (fun _ => rfl)) (fun k hk e => hgt.apart hb1 h1 h2 (e ▸ hk))) (fun _ _ x => x)
  clear h hb hb1 hgt H h1 h2 hx hl hbB
  go_wp2
  go_end0
  go_wp2
  go_end0
  exact ⟨rfl, H2, hB⟩

set_option maxHeartbeats 400000 in
theorem cell_loadn_Recordint (b o T : Nat) (xs : List Value) (w : World) (hb : Blk w b T xs) (p : Option Nat) (hx : xs[o]? = some (pv p)) (hp : PtrTo 178 4 w p) :
    Calls Try.prog 124 #[.pointer (some ⟨b, o, none⟩), .nilIface] w fun e w' => e = .returned (pv p) ∧ w = w' := by
  have hc1 : w.cell? ⟨b, o, none⟩ = some (pv p) := by rw [hb.cell o]; exact hx
  have hrun := run_call_load_ptr (P := Try.prog) Try.func141 (by kernel_rfl) (by kernel_rfl) (by kernel_rfl) (by kernel_rfl) hc1
  have hto := fun (x : Option Nat) (hx : PtrTo 178 4 w x) => run_to_unsafe (P := Try.prog) (src := 150) (dst := 113) Try.underlying150 Try.underlying113 size_Recordint (by decide) hx
  have hfr := fun (x : Option Nat) (hx : PtrTo 178 4 w x) => run_from_unsafe (P := Try.prog) (src := 113) (dst := 150) Try.underlying113 Try.underlying150 size_Recordint lies_Recordint hx
  have hk := hfr p hp
  clear hto hfr hp
  clear hb hx
  go_enter Try.func124, Try.ntmps124
  go_wp2_with fail
  refine (pass_nil _ w).mono ?_
  rintro e w1 ⟨rfl, rfl⟩
  go_wp2
  go_ret
  exact ⟨rfl, rfl⟩

set_option maxHeartbeats 400000 in
theorem cell_cas_Recordint (B : Nat) (g : Option Nat) (ks : List Int) (b o T : Nat) (xs : List Value) (w : World) (h : GAtI w B g ks) (hbB : B ≤ w.heap.size) (hl : ks.length ≤ 1000000000) (hb : Blk w b T xs) (h1 : T ≠ TT) (h2 : T ≠ ti) (c x y : Option Nat) (hx : xs[o]? = some (pv c)) (kc : PtrTo 178 4 w c) (kx : PtrTo 178 4 w x) (ky : PtrTo 178 4 w y) :
    Calls Try.prog 115 #[.pointer (some ⟨b, o, none⟩), gvI g, pv x, pv y] w fun e w' => e = .returned (.bool (decide (c = x))) ∧ StepI B g w w' (ks ++ [5]) (fun k => k = b) ∧ Blk w' b T (if c = x then xs.set o (pv y) else xs) := by
  by_cases e : c = x
  all_goals
    first | rw [if_pos e, decide_eq_true e] | rw [if_neg e, decide_eq_false e]
    go_enter Try.func115, Try.ntmps115
    go_wp2_with fail
    refine (pass_any B g ks 5 w h hbB hl).mono ?_
    rintro e_ w1 ⟨rfl, H⟩
    have hb1 := H.blk h hb h1 h2 (fun x => x)
    have hgt := H.gate
    have hcas := run_call_cas_ptr (P := Try.prog) Try.func144 (by kernel_rfl) (by kernel_rfl) (by kernel_rfl) (by kernel_rfl) hb1 hx (kc.step h H (by decide) (by decide)).known (kx.step h H (by decide) (by decide)).known (y := hd y)
    have hto := fun (x : Option Nat) (hx : PtrTo 178 4 w1 x) => run_to_unsafe (P := Try.prog) (src := 150) (dst := 113) Try.underlying150 Try.underlying113 size_Recordint (by decide) hx
    have hfr := fun (x : Option Nat) (hx : PtrTo 178 4 w1 x) => run_from_unsafe (P := Try.prog) (src := 113) (dst := 150) Try.underlying113 Try.underlying150 size_Recordint lies_Recordint hx
    have hkx := hto x (kx.step h H (by decide) (by decide))
    have hky := hto y (ky.step h H (by decide) (by decide))
    clear hto hfr
    first | rw [if_pos e, decide_eq_true e] at hcas | rw [if_neg e, decide_eq_false e] at hcas
  · have hB := hb1.set o (pv y)
    have H2 : StepI B g w (w1.setCell ⟨b, o, none⟩ (pv y)) (ks ++ [5]) (fun k => k = b) :=
      (H.mono (S' := fun k => k = b) (fun _ _ x => x.elim)).trans (hgt.fr ((Fr.refl w1 (fun k => k = b)).setCell _ _ (fun _ => rfl)) (fun k hk e => hgt.apart hb1 h1 h2 (e ▸ hk))) (fun _ _ x => x)
    clear h hb hb1 hgt H kc kx ky e h1 h2 hx hl hbB
    go_wp2
    go_ret
    exact ⟨rfl, H2, hB⟩
  · have H2 : StepI B g w w1 (ks ++ [5]) (fun k => k = b) := H.mono (fun _ _ x => x.elim)
    have hB := hb1
    clear h hb hb1 hgt H kc kx ky e h1 h2 hx hl hbB
    go_wp2
    go_ret
    exact ⟨rfl, H2, hB⟩

theorem lies_RecordL12thing : LiesOne Try.prog 124 5 := by unfold LiesOne; kernel_rfl
theorem size_RecordL12thing : (Try.prog.info? 124).map (fun i => decide (i.size = 0)) = some false := by kernel_rfl

set_option maxHeartbeats 400000 in
theorem cell_load_RecordL12thing (B : Nat) (g : Option Nat) (ks : List Int) (b o T : Nat) (xs : List Value) (w : World) (h : GAtI w B g ks) (hbB : B ≤ w.heap.size) (hl : ks.length ≤ 1000000000) (hb : Blk w b T xs) (h1 : T ≠ TT) (h2 : T ≠ ti) (p : Option Nat) (hx : xs[o]? = some (pv p)) (hp : PtrTo 124 5 w p) :
    Calls Try.prog 104 #[.pointer (some ⟨b, o, none⟩), gvI g] w fun e w' => e = .returned (pv p) ∧ StepI B g w w' (ks ++ [1]) (fun _ => False) := by
  go_enter Try.func104, Try.ntmps104
  go_wp2_with fail
  refine (pass_any B g ks 1 w h hbB hl).mono ?_
  rintro e w1 ⟨rfl, H⟩
  have hb1 := H.blk h hb h1 h2 (fun x => x)
  have hgt := H.gate
  have hto := fun (x : Option Nat) (hx : PtrTo 124 5 w1 x) => run_to_unsafe (P := Try.prog) (src := 103) (dst := 113) Try.underlying103 Try.underlying113 size_RecordL12thing (by decide) hx
  have hfr := fun (x : Option Nat) (hx : PtrTo 124 5 w1 x) => run_from_unsafe (P := Try.prog) (src := 113) (dst := 103) Try.underlying113 Try.underlying103 size_RecordL12thing lies_RecordL12thing hx
  have hk := hfr p (hp.step h H (by decide) (by decide))
  clear hto hfr hp

  have hc1 : w1.cell? ⟨b, o, none⟩ = some (pv p) := by rw [hb1.cell o]; exact hx
  have hrun := run_call_load_ptr (P := Try.prog) Try.func141 (by kernel_rfl) (by kernel_rfl) (by kernel_rfl) (by kernel_rfl) hc1
  clear h hb hb1 hgt h1 h2 hx hl hbB
  go_wp2
  go_ret
  exact ⟨rfl, H⟩

set_option maxHeartbeats 400000 in
theorem cell_store_RecordL12thing (B : Nat) (g : Option Nat) (ks : List Int) (b o T : Nat) (xs : List Value) (w : World) (h : GAtI w B g ks) (hbB : B ≤ w.heap.size) (hl : ks.length ≤ 1000000000) (hb : Blk w b T xs) (h1 : T ≠ TT) (h2 : T ≠ ti) (p : Option Nat) (u : Value) (hx : xs[o]? = some u) (hp : PtrTo 124 5 w p) :
    Calls Try.prog 102 #[.pointer (some ⟨b, o, none⟩), gvI g, pv p] w fun e w' => e = .returned (.tuple #[]) ∧ StepI B g w w' (ks ++ [2]) (fun k => k = b) ∧ Blk w' b T (xs.set o (pv p)) := by
  go_enter Try.func102, Try.ntmps102
  go_wp2_with fail
  refine (pass_any B g ks 2 w h hbB hl).mono ?_
  rintro e w1 ⟨rfl, H⟩
  have hb1 := H.blk h hb h1 h2 (fun x => x)
  have hgt := H.gate
  have hto := fun (x : Option Nat) (hx : PtrTo 124 5 w1 x) => run_to_unsafe (P := Try.prog) (src := 103) (dst := 113) Try.underlying103 Try.underlying113 size_RecordL12thing (by decide) hx
  have hfr := fun (x : Option Nat) (hx : PtrTo 124 5 w1 x) => run_from_unsafe (P := Try.prog) (src := 113) (dst := 103) Try.underlying113 Try.underlying103 size_RecordL12thing lies_RecordL12thing hx
  have hk := hto p (hp.step h H (by decide) (by decide))
  clear hto hfr hp

  have hc1 : w1.cell? ⟨b, o, none⟩ = some u := by rw [hb1.cell o]; exact hx
  have hf1 : w1.frozen? ⟨b, o, none⟩ = false := hb1.free _ rfl
  have hrun := run_call_store (P := Try.prog) Try.func139 (by kernel_rfl) (by kernel_rfl) (by kernel_rfl) (by kernel_rfl) hc1 hf1 (v := pv p) rfl
  have hB := hb1.set o (pv p)
  have H2 : StepI B g w (w1.setCell ⟨b, o, none⟩ (pv p)) (ks ++ [2]) (fun k => k = b) :=
    (H.mono (S' := fun k => k = b) (fun _ _ x => x.elim)).trans (hgt.fr ((Fr.refl w1 (fun k => k = b)).setCell _ _ (fun _ => rfl)) (fun k hk e => hgt.apart hb1 h1 h2 (e ▸ hk))) (fun _ _ x => x)
  clear h hb hb1 hgt H h1 h2 hx hl hbB
  go_wp2
  go_end0
  go_wp2
  go_end0
  exact ⟨rfl, H2, hB⟩

set_option maxHeartbeats 400000 in
theorem cell_loadn_RecordL12thing (b o T : Nat) (xs : List Value) (w : World) (hb : Blk w b T xs) (p : Option Nat) (hx : xs[o]? = some (pv p)) (hp : PtrTo 124 5 w p) :
    Calls Try.prog 104 #[.pointer (some ⟨b, o, none⟩), .nilIface] w fun e w' => e = .returned (pv p) ∧ w = w' := by
  have hc1 : w.cell? ⟨b, o, none⟩ = some (pv p) := by rw [hb.cell o]; exact hx
  have hrun := run_call_load_ptr (P := Try.prog) Try.func141 (by kernel_rfl) (by kernel_rfl) (by kernel_rfl) (by kernel_rfl) hc1
  have hto := fun (x : Option Nat) (hx : PtrTo 124 5 w x) => run_to_unsafe (P := Try.prog) (src := 103) (dst := 113) Try.underlying103 Try.underlying113 size_RecordL12thing (by decide) hx
  have hfr := fun (x : Option Nat) (hx : PtrTo 124 5 w x) => run_from_unsafe (P := Try.prog) (src := 113) (dst := 103) Try.underlying113 Try.underlying103 size_RecordL12thing lies_RecordL12thing hx
  have hk := hfr p hp
  clear hto hfr hp
  clear hb hx
  go_enter Try.func104, Try.ntmps104
  go_wp2_with fail
  refine (pass_nil _ w).mono ?_
  rintro e w1 ⟨rfl, rfl⟩
  go_wp2
  go_ret
  exact ⟨rfl, rfl⟩

set_option maxHeartbeats 400000 in
theorem cell_cas_RecordL12thing (B : Nat) (g : Option Nat) (ks : List Int) (b o T : Nat) (xs : List Value) (w : World) (h : GAtI w B g ks) (hbB : B ≤ w.heap.size) (hl : ks.length ≤ 1000000000) (hb : Blk w b T xs) (h1 : T ≠ TT) (h2 : T ≠ ti) (c x y : Option Nat) (hx : xs[o]? = some (pv c)) (kc : PtrTo 124 5 w c) (kx : PtrTo 124 5 w x) (ky : PtrTo 124 5 w y) :
    Calls Try.prog 108 #[.pointer (some ⟨b, o, none⟩), gvI g, pv x, pv y] w fun e w' => e = .returned (.bool (decide (c = x))) ∧ StepI B g w w' (ks ++ [5]) (fun k => k = b) ∧ Blk w' b T (if c = x then xs.set o (pv y) else xs) := by
  by_cases e : c = x
  all_goals
    first | rw [if_pos e, decide_eq_true e] | rw [if_neg e, decide_eq_false e]
    go_enter Try.func108, Try.ntmps108
    go_wp2_with fail
    refine (pass_any B g ks 5 w h hbB hl).mono ?_
    rintro e_ w1 ⟨rfl, H⟩
    have hb1 := H.blk h hb h1 h2 (fun x => x)
    have hgt := H.gate
    have hcas := run_call_cas_ptr (P := Try.prog) Try.func144 (by kernel_rfl) (by kernel_rfl) (by kernel_rfl) (by kernel_rfl) hb1 hx (kc.step h H (by decide) (by decide)).known (kx.step h H (by decide) (by decide)).known (y := hd y)
    have hto := fun (x : Option Nat) (hx : PtrTo 124 5 w1 x) => run_to_unsafe (P := Try.prog) (src := 103) (dst := 113) Try.underlying103 Try.underlying113 size_RecordL12thing (by decide) hx
    have hfr := fun (x : Option Nat) (hx : PtrTo 124 5 w1 x) => run_from_unsafe (P := Try.prog) (src := 113) (dst := 103) Try.underlying113 Try.underlying103 size_RecordL12thing lies_RecordL12thing hx
    have hkx := hto x (kx.step h H (by decide) (by decide))
    have hky := hto y (ky.step h H (by decide) (by decide))
    clear hto hfr
    first | rw [if_pos e, decide_eq_true e] at hcas | rw [if_neg e, decide_eq_false e] at hcas
  · have hB := hb1.set o (pv y)
    have H2 : StepI B g w (w1.setCell ⟨b, o, none⟩ (pv y)) (ks ++ [5]) (fun k => k = b) :=
      (H.mono (S' := fun k => k = b) (fun _ _ x => x.elim)).trans (hgt.fr ((Fr.refl w1 (fun k => k = b)).setCell _ _ (fun _ => rfl)) (fun k hk e => hgt.apart hb1 h1 h2 (e ▸ hk))) (fun _ _ x => x)
    clear h hb hb1 hgt H kc kx ky e h1 h2 hx hl hbB
    go_wp2
    go_ret
    exact ⟨rfl, H2, hB⟩
  · have H2 : StepI B g w w1 (ks ++ [5]) (fun k => k = b) := H.mono (fun _ _ x => x.elim)
    have hB := hb1
    clear h hb hb1 hgt H kc kx ky e h1 h2 hx hl hbB
    go_wp2
    go_ret
    exact ⟨rfl, H2, hB⟩

theorem lies_Scxint : LiesOne Try.prog 152 9 := by unfold LiesOne; kernel_rfl
theorem size_Scxint : (Try.prog.info? 152).map (fun i => decide (i.size = 0)) = some false := by kernel_rfl

set_option maxHeartbeats 400000 in
theorem cell_load_Scxint (B : Nat) (g : Option Nat) (ks : List Int) (b o T : Nat) (xs : List Value) (w : World) (h : GAtI w B g ks) (hbB : B ≤ w.heap.size) (hl : ks.length ≤ 1000000000) (hb : Blk w b T xs) (h1 : T ≠ TT) (h2 : T ≠ ti) (p : Option Nat) (hx : xs[o]? = some (pv p)) (hp : PtrTo 152 9 w p) :
    Calls Try.prog 114 #[.pointer (some ⟨b, o, none⟩), gvI g] w fun e w' => e = .returned (pv p) ∧ StepI B g w w' (ks ++ [1]) (fun _ => False) := by
  go_enter Try.func114, Try.ntmps114
  go_wp2_with fail
  refine (pass_any B g ks 1 w h hbB hl).mono ?_
  rintro e w1 ⟨rfl, H⟩
  have hb1 := H.blk h hb h1 h2 (fun x => x)
  have hgt := H.gate
  have hto := fun (x : Option Nat) (hx : PtrTo 152 9 w1 x) => run_to_unsafe (P := Try.prog) (src := 81) (dst := 113) Try.underlying81 Try.underlying113 size_Scxint (by decide) hx
  have hfr := fun (x : Option Nat) (hx : PtrTo 152 9 w1 x) => run_from_unsafe (P := Try.prog) (src := 113) (dst := 81) Try.underlying113 Try.underlying81 size_Scxint lies_Scxint hx
  have hk := hfr p (hp.step h H (by decide) (by decide))
  clear hto hfr hp

  have hc1 : w1.cell? ⟨b, o, none⟩ = some (pv p) := by rw [hb1.cell o]; exact hx
  have hrun := run_call_load_ptr (P := Try.prog) Try.func141 (by kernel_rfl) (by kernel_rfl) (by kernel_rfl) (by kernel_rfl) hc1
  clear h hb hb1 hgt h1 h2 hx hl hbB
  go_wp2
  go_ret
  exact ⟨rfl, H⟩

set_option maxHeartbeats 400000 in
theorem cell_store_Scxint (B : Nat) (g : Option Nat) (ks : List Int) (b o T : Nat) (xs : List Value) (w : World) (h : GAtI w B g ks) (hbB : B ≤ w.heap.size) (hl : ks.length ≤ 1000000000) (hb : Blk w b T xs) (h1 : T ≠ TT) (h2 : T ≠ ti) (p : Option Nat) (u : Value) (hx : xs[o]? = some u) (hp : PtrTo 152 9 w p) :
    Calls Try.prog 90 #[.pointer (some ⟨b, o, none⟩), gvI g, pv p] w fun e w' => e = .returned (.tuple #[]) ∧ StepI B g w w' (ks ++ [2]) (fun k => k = b) ∧ Blk w' b T (xs.set o (pv p)) := by
  go_enter Try.func90, Try.ntmps90
  go_wp2_with fail
  refine (pass_any B g ks 2 w h hbB hl).mono ?_
  rintro e w1 ⟨rfl, H⟩
  have hb1 := H.blk h hb h1 h2 (fun x => x)
  have hgt := H.gate
  have hto := fun (x : Option Nat) (hx : PtrTo 152 9 w1 x) => run_to_unsafe (P := Try.prog) (src := 81) (dst := 113) Try.underlying81 Try.underlying113 size_Scxint (by decide) hx
  have hfr := fun (x : Option Nat) (hx : PtrTo 152 9 w1 x) => run_from_unsafe (P := Try.prog) (src := 113) (dst := 81) Try.underlying113 Try.underlying81 size_Scxint lies_Scxint hx
  have hk := hto p (hp.step h H (by decide) (by decide))
  clear hto hfr hp

  have hc1 : w1.cell? ⟨b, o, none⟩ = some u := by rw [hb1.cell o]; exact hx
  have hf1 : w1.frozen? ⟨b, o, none⟩ = false := hb1.free _ rfl
  have hrun := run_call_store (P := Try.prog) Try.func139 (by kernel_rfl) (by kernel_rfl) (by kernel_rfl) (by kernel_rfl) hc1 hf1 (v := pv p) rfl
  have hB := hb1.set o (pv p)
  have H2 : StepI B g w (w1.setCell ⟨b, o, none⟩ (pv p)) (ks ++ [2]) (fun k => k = b) :=
    (H.mono (S' := fun k => k = b) (fun _ _ x => x.elim)).trans (hgt.fr ((Fr.refl w1 (fun k => k = b)).setCell _ _ (fun _ => rfl)) (fun k hk e => hgt.apart hb1 h1 h2 (e ▸ hk))) (fun _ _ x => x)
  clear h hb hb1 hgt H h1 h2 hx hl hbB
  go_wp2
  go_end0
  go_wp2
  go_end0
  exact ⟨rfl, H2, hB⟩

set_option maxHeartbeats 400000 in
theorem cell_loadn_Scxint (b o T : Nat) (xs : List Value) (w : World) (hb : Blk w b T xs) (p : Option Nat) (hx : xs[o]? = some (pv p)) (hp : PtrTo 152 9 w p) :
    Calls Try.prog 114 #[.pointer (some ⟨b, o, none⟩), .nilIface] w fun e w' => e = .returned (pv p) ∧ w = w' := by
  have hc1 : w.cell? ⟨b, o, none⟩ = some (pv p) := by rw [hb.cell o]; exact hx
  have hrun := run_call_load_ptr (P := Try.prog) Try.func141 (by kernel_rfl) (by kernel_rfl) (by kernel_rfl) (by kernel_rfl) hc1
  have hto := fun (x : Option Nat) (hx : PtrTo 152 9 w x) => run_to_unsafe (P := Try.prog) (src := 81) (dst := 113) Try.underlying81 Try.underlying113 size_Scxint (by decide) hx
  have hfr := fun (x : Option Nat) (hx : PtrTo 152 9 w x) => run_from_unsafe (P := Try.prog) (src := 113) (dst := 81) Try.underlying113 Try.underlying81 size_Scxint lies_Scxint hx
  have hk := hfr p hp
  clear hto hfr hp
  clear hb hx
  go_enter Try.func114, Try.ntmps114
  go_wp2_with fail
  refine (pass_nil _ w).mono ?_
  rintro e w1 ⟨rfl, rfl⟩
  go_wp2
  go_ret
  exact ⟨rfl, rfl⟩

set_option maxHeartbeats 400000 in
theorem cell_cas_Scxint (B : Nat) (g : Option Nat) (ks : List Int) (b o T : Nat) (xs : List Value) (w : World) (h : GAtI w B g ks) (hbB : B ≤ w.heap.size) (hl : ks.length ≤ 1000000000) (hb : Blk w b T xs) (h1 : T ≠ TT) (h2 : T ≠ ti) (c x y : Option Nat) (hx : xs[o]? = some (pv c)) (kc : PtrTo 152 9 w c) (kx : PtrTo 152 9 w x) (ky : PtrTo 152 9 w y) :
    Calls Try.prog 113 #[.pointer (some ⟨b, o, none⟩), gvI g, pv x, pv y] w fun e w' => e = .returned (.bool (decide (c = x))) ∧ StepI B g w w' (ks ++ [5]) (fun k => k = b) ∧ Blk w' b T (if c = x then xs.set o (pv y) else xs) := by
  by_cases e : c = x
  all_goals
    first | rw [if_pos e, decide_eq_true e] | rw [if_neg e, decide_eq_false e]
    go_enter Try.func113, Try.ntmps113
    go_wp2_with fail
    refine (pass_any B g ks 5 w h hbB hl).mono ?_
    rintro e_ w1 ⟨rfl, H⟩
    have hb1 := H.blk h hb h1 h2 (fun x => x)
    have hgt := H.gate
    have hcas := run_call_cas_ptr (P := Try.prog) Try.func144 (by kernel_rfl) (by kernel_rfl) (by kernel_rfl) (by kernel_rfl) hb1 hx (kc.step h H (by decide) (by decide)).known (kx.step h H (by decide) (by decide)).known (y := hd y)
    have hto := fun (x : Option Nat) (hx : PtrTo 152 9 w1 x) => run_to_unsafe (P := Try.prog) (src := 81) (dst := 113) Try.underlying81 Try.underlying113 size_Scxint (by decide) hx
    have hfr := fun (x : Option Nat) (hx : PtrTo 152 9 w1 x) => run_from_unsafe (P := Try.prog) (src := 113) (dst := 81) Try.underlying113 Try.underlying81 size_Scxint lies_Scxint hx
    have hkx := hto x (kx.step h H (by decide) (by decide))
    have hky := hto y (ky.step h H (by decide) (by decide))
    clear hto hfr
    first | rw [if_pos e, decide_eq_true e] at hcas | rw [if_neg e, decide_eq_false e] at hcas
  · have hB := hb1.set o (pv y)
    have H2 : StepI B g w (w1.setCell ⟨b, o, none⟩ (pv y)) (ks ++ [5]) (fun k => k = b) :=
      (H.mono (S' := fun k => k = b) (fun _ _ x => x.elim)).trans (hgt.fr ((Fr.refl w1 (fun k => k = b)).setCell _ _ (fun _ => rfl)) (fun k hk e => hgt.apart hb1 h1 h2 (e ▸ hk))) (fun _ _ x => x)
    clear h hb hb1 hgt H kc kx ky e h1 h2 hx hl hbB
    go_wp2
    go_ret
    exact ⟨rfl, H2, hB⟩
  · have H2 : StepI B g w w1 (ks ++ [5]) (fun k => k = b) := H.mono (fun _ _ x => x.elim)
    have hB := hb1
    clear h hb hb1 hgt H kc kx ky e h1 h2 hx hl hbB
    go_wp2
    go_ret
    exact ⟨rfl, H2, hB⟩

theorem lies_ScxL12thing : LiesOne Try.prog 141 9 := by unfold LiesOne; kernel_rfl
theorem size_ScxL12thing : (Try.prog.info? 141).map (fun i => decide (i.size = 0)) = some false := by kernel_rfl

set_option maxHeartbeats 400000 in
theorem cell_load_ScxL12thing (B : Nat) (g : Option Nat) (ks : List Int) (b o T : Nat) (xs : List Value) (w : World) (h : GAtI w B g ks) (hbB : B ≤ w.heap.size) (hl : ks.length ≤ 1000000000) (hb : Blk w b T xs) (h1 : T ≠ TT) (h2 : T ≠ ti) (p : Option Nat) (hx : xs[o]? = some (pv p)) (hp : PtrTo 141 9 w p) :
    Calls Try.prog 106 #[.pointer (some ⟨b, o, none⟩), gvI g] w fun e w' => e = .returned (pv p) ∧ StepI B g w w' (ks ++ [1]) (fun _ => False) := by
  go_enter Try.func106, Try.ntmps106
  go_wp2_with fail
  refine (pass_any B g ks 1 w h hbB hl).mono ?_
  rintro e w1 ⟨rfl, H⟩
  have hb1 := H.blk h hb h1 h2 (fun x => x)
  have hgt := H.gate
  have hto := fun (x : Option Nat) (hx : PtrTo 141 9 w1 x) => run_to_unsafe (P := Try.prog) (src := 109) (dst := 113) Try.underlying109 Try.underlying113 size_ScxL12thing (by decide) hx
  have hfr := fun (x : Option Nat) (hx : PtrTo 141 9 w1 x) => run_from_unsafe (P := Try.prog) (src := 113) (dst := 109) Try.underlying113 Try.underlying109 size_ScxL12thing lies_ScxL12thing hx
  have hk := hfr p (hp.step h H (by decide) (by decide))
  clear hto hfr hp

  have hc1 : w1.cell? ⟨b, o, none⟩ = some (pv p) := by rw [hb1.cell o]; exact hx
  have hrun := run_call_load_ptr (P := Try.prog) Try.func141 (by kernel_rfl) (by kernel_rfl) (by kernel_rfl) (by kernel_rfl) hc1
  clear h hb hb1 hgt h1 h2 hx hl hbB
  go_wp2
  go_ret
  exact ⟨rfl, H⟩

set_option maxHeartbeats 400000 in
theorem cell_store_ScxL12thing (B : Nat) (g : Option Nat) (ks : List Int) (b o T : Nat) (xs : List Value) (w : World) (h : GAtI w B g ks) (hbB : B ≤ w.heap.size) (hl : ks.length ≤ 1000000000) (hb : Blk w b T xs) (h1 : T ≠ TT) (h2 : T ≠ ti) (p : Option Nat) (u : Value) (hx : xs[o]? = some u) (hp : PtrTo 141 9 w p) :
    Calls Try.prog 103 #[.pointer (some ⟨b, o, none⟩), gvI g, pv p] w fun e w' => e = .returned (.tuple #[]) ∧ StepI B g w w' (ks ++ [2]) (fun k => k = b) ∧ Blk w' b T (xs.set o (pv p)) := by
  go_enter Try.func103, Try.ntmps103
  go_wp2_with fail
  refine (pass_any B g ks 2 w h hbB hl).mono ?_
  rintro e w1 ⟨rfl, H⟩
  have hb1 := H.blk h hb h1 h2 (fun x => x)
  have hgt := H.gate
  have hto := fun (x : Option Nat) (hx : PtrTo 141 9 w1 x) => run_to_unsafe (P := Try.prog) (src := 109) (dst := 113) Try.underlying109 Try.underlying113 size_ScxL12thing (by decide) hx
  have hfr := fun (x : Option Nat) (hx : PtrTo 141 9 w1 x) => run_from_unsafe (P := Try.prog) (src := 113) (dst := 109) Try.underlying113 Try.underlying109 size_ScxL12thing lies_ScxL12thing hx
  have hk := hto p (hp.step h H (by decide) (by decide))
  clear hto hfr hp

  have hc1 : w1.cell? ⟨b, o, none⟩ = some u := by rw [hb1.cell o]; exact hx
  have hf1 : w1.frozen? ⟨b, o, none⟩ = false := hb1.free _ rfl
  have hrun := run_call_store (P := Try.prog) Try.func139 (by kernel_rfl) (by kernel_rfl) (by kernel_rfl) (by kernel_rfl) hc1 hf1 (v := pv p) rfl
  have hB := hb1.set o (pv p)
  have H2 : StepI B g w (w1.setCell ⟨b, o, none⟩ (pv p)) (ks ++ [2]) (fun k => k = b) :=
    (H.mono (S' := fun k => k = b) (fun _ _ x => x.elim)).trans (hgt.fr ((Fr.refl w1 (fun k => k = b)).setCell _ _ (fun _ => rfl)) (fun k hk e => hgt.apart hb1 h1 h2 (e ▸ hk))) (fun _ _ x => x)
  clear h hb hb1 hgt H h1 h2 hx hl hbB
  go_wp2
  go_end0
  go_wp2
  go_end0
  exact ⟨rfl, H2, hB⟩

set_option maxHeartbeats 400000 in
theorem cell_loadn_ScxL12thing (b o T : Nat) (xs : List Value) (w : World) (hb : Blk w b T xs) (p : Option Nat) (hx : xs[o]? = some (pv p)) (hp : PtrTo 141 9 w p) :
    Calls Try.prog 106 #[.pointer (some ⟨b, o, none⟩), .nilIface] w fun e w' => e = .returned (pv p) ∧ w = w' := by
  have hc1 : w.cell? ⟨b, o, none⟩ = some (pv p) := by rw [hb.cell o]; exact hx
  have hrun := run_call_load_ptr (P := Try.prog) Try.func141 (by kernel_rfl) (by kernel_rfl) (by kernel_rfl) (by kernel_rfl) hc1
  have hto := fun (x : Option Nat) (hx : PtrTo 141 9 w x) => run_to_unsafe (P := Try.prog) (src := 109) (dst := 113) Try.underlying109 Try.underlying113 size_ScxL12thing (by decide) hx
  have hfr := fun (x : Option Nat) (hx : PtrTo 141 9 w x) => run_from_unsafe (P := Try.prog) (src := 113) (dst := 109) Try.underlying113 Try.underlying109 size_ScxL12thing lies_ScxL12thing hx
  have hk := hfr p hp
  clear hto hfr hp
  clear hb hx
  go_enter Try.func106, Try.ntmps106
  go_wp2_with fail
  refine (pass_nil _ w).mono ?_
  rintro e w1 ⟨rfl, rfl⟩
  go_wp2
  go_ret
  exact ⟨rfl, rfl⟩

set_option maxHeartbeats 400000 in
theorem cell_cas_ScxL12thing (B : Nat) (g : Option Nat) (ks : List Int) (b o T : Nat) (xs : List Value) (w : World) (h : GAtI w B g ks) (hbB : B ≤ w.heap.size) (hl : ks.length ≤ 1000000000) (hb : Blk w b T xs) (h1 : T ≠ TT) (h2 : T ≠ ti) (c x y : Option Nat) (hx : xs[o]? = some (pv c)) (kc : PtrTo 141 9 w c) (kx : PtrTo 141 9 w x) (ky : PtrTo 141 9 w y) :
    Calls Try.prog 112 #[.pointer (some ⟨b, o, none⟩), gvI g, pv x, pv y] w fun e w' => e = .returned (.bool (decide (c = x))) ∧ StepI B g w w' (ks ++ [5]) (fun k => k = b) ∧ Blk w' b T (if c = x then xs.set o (pv y) else xs) := by
  by_cases e : c = x
  all_goals
    first | rw [if_pos e, decide_eq_true e] | rw [if_neg e, decide_eq_false e]
    go_enter Try.func112, Try.ntmps112
    go_wp2_with fail
    refine (pass_any B g ks 5 w h hbB hl).mono ?_
    rintro e_ w1 ⟨rfl, H⟩
    have hb1 := H.blk h hb h1 h2 (fun x => x)
    have hgt := H.gate
    have hcas := run_call_cas_ptr (P := Try.prog) Try.func144 (by kernel_rfl) (by kernel_rfl) (by kernel_rfl) (by kernel_rfl) hb1 hx (kc.step h H (by decide) (by decide)).known (kx.step h H (by decide) (by decide)).known (y := hd y)
    have hto := fun (x : Option Nat) (hx : PtrTo 141 9 w1 x) => run_to_unsafe (P := Try.prog) (src := 109) (dst := 113) Try.underlying109 Try.underlying113 size_ScxL12thing (by decide) hx
    have hfr := fun (x : Option Nat) (hx : PtrTo 141 9 w1 x) => run_from_unsafe (P := Try.prog) (src := 113) (dst := 109) Try.underlying113 Try.underlying109 size_ScxL12thing lies_ScxL12thing hx
    have hkx := hto x (kx.step h H (by decide) (by decide))
    have hky := hto y (ky.step h H (by decide) (by decide))
    clear hto hfr
    first | rw [if_pos e, decide_eq_true e] at hcas | rw [if_neg e, decide_eq_false e] at hcas
  · have hB := hb1.set o (pv y)
    have H2 : StepI B g w (w1.setCell ⟨b, o, none⟩ (pv y)) (ks ++ [5]) (fun k => k = b) :=
      (H.mono (S' := fun k => k = b) (fun _ _ x => x.elim)).trans (hgt.fr ((Fr.refl w1 (fun k => k = b)).setCell _ _ (fun _ => rfl)) (fun k hk e => hgt.apart hb1 h1 h2 (e ▸ hk))) (fun _ _ x => x)
    clear h hb hb1 hgt H kc kx ky e h1 h2 hx hl hbB
    go_wp2
    go_ret
    exact ⟨rfl, H2, hB⟩
  · have H2 : StepI B g w w1 (ks ++ [5]) (fun k => k = b) := H.mono (fun _ _ x => x.elim)
    have hB := hb1
    clear h hb hb1 hgt H kc kx ky e h1 h2 hx hl hbB
    go_wp2
    go_ret
    exact ⟨rfl, H2, hB⟩

set_option maxHeartbeats 400000 in
theorem num_load (B : Nat) (g : Option Nat) (ks : List Int) (b o T : Nat) (xs : List Value) (w : World) (h : GAtI w B g ks) (hbB : B ≤ w.heap.size) (hl : ks.length ≤ 1000000000) (hb : Blk w b T xs) (h1 : T ≠ TT) (h2 : T ≠ ti) (n : Int) (hn0 : 0 ≤ n) (hn1 : n ≤ 1000) (hx : xs[o]? = some (.int .i64 n)) :
    Calls Try.prog 107 #[.pointer (some ⟨b, o, none⟩), gvI g] w fun e w' => e = .returned (.int .i64 n) ∧ StepI B g w w' (ks ++ [1]) (fun _ => False) := by
  go_enter Try.func107, Try.ntmps107
  go_wp2_with fail
  refine (pass_any B g ks 1 w h hbB hl).mono ?_
  rintro e w1 ⟨rfl, H⟩
  have hb1 := H.blk h hb h1 h2 (fun x => x)
  have hgt := H.gate

  have hc1 : w1.cell? ⟨b, o, none⟩ = some (.int .i64 n) := by rw [hb1.cell o]; exact hx
  have hrun := run_call_load_int (P := Try.prog) Try.func143 (by kernel_rfl) (by kernel_rfl) (by kernel_rfl) .i64 (by kernel_rfl) hc1
  clear h hb hb1 hgt h1 h2 hx hl hbB
  go_wp2
  go_ret
  exact ⟨rfl, H⟩

set_option maxHeartbeats 400000 in
theorem num_loadn (b o T : Nat) (xs : List Value) (w : World) (hb : Blk w b T xs) (n : Int) (hn0 : 0 ≤ n) (hn1 : n ≤ 1000) (hx : xs[o]? = some (.int .i64 n)) :
    Calls Try.prog 107 #[.pointer (some ⟨b, o, none⟩), .nilIface] w fun e w' => e = .returned (.int .i64 n) ∧ w = w' := by
  have hc1 : w.cell? ⟨b, o, none⟩ = some (.int .i64 n) := by rw [hb.cell o]; exact hx
  have hrun := run_call_load_int (P := Try.prog) Try.func143 (by kernel_rfl) (by kernel_rfl) (by kernel_rfl) .i64 (by kernel_rfl) hc1
  clear hb hx
  go_enter Try.func107, Try.ntmps107
  go_wp2_with fail
  refine (pass_nil _ w).mono ?_
  rintro e w1 ⟨rfl, rfl⟩
  go_wp2
  go_ret
  exact ⟨rfl, rfl⟩

set_option maxHeartbeats 400000 in
theorem num_store (B : Nat) (g : Option Nat) (ks : List Int) (b o T : Nat) (xs : List Value) (w : World) (h : GAtI w B g ks) (hbB : B ≤ w.heap.size) (hl : ks.length ≤ 1000000000) (hb : Blk w b T xs) (h1 : T ≠ TT) (h2 : T ≠ ti) (n : Int) (hn0 : 0 ≤ n) (hn1 : n ≤ 1000) (u : Value) (hx : xs[o]? = some u) :
    Calls Try.prog 86 #[.pointer (some ⟨b, o, none⟩), gvI g, .int .i64 n] w fun e w' => e = .returned (.tuple #[]) ∧ StepI B g w w' (ks ++ [2]) (fun k => k = b) ∧ Blk w' b T (xs.set o (.int .i64 n)) := by
  go_enter Try.func86, Try.ntmps86
  go_wp2_with fail
  refine (pass_any B g ks 2 w h hbB hl).mono ?_
  rintro e w1 ⟨rfl, H⟩
  have hb1 := H.blk h hb h1 h2 (fun x => x)
  have hgt := H.gate

  have hc1 : w1.cell? ⟨b, o, none⟩ = some u := by rw [hb1.cell o]; exact hx
  have hf1 : w1.frozen? ⟨b, o, none⟩ = false := hb1.free _ rfl
  have hrun := run_call_store (P := Try.prog) Try.func136 (by kernel_rfl) (by kernel_rfl) (by kernel_rfl) (by kernel_rfl) hc1 hf1 (v := .int .i64 n) rfl
  have hB := hb1.set o (.int .i64 n)
  have H2 : StepI B g w (w1.setCell ⟨b, o, none⟩ (.int .i64 n)) (ks ++ [2]) (fun k => k = b) :=
    (H.mono (S' := fun k => k = b) (fun _ _ x => x.elim)).trans (hgt.fr ((Fr.refl w1 (fun k => k = b)).setCell _ _ (fun _ => rfl)) (fun k hk e => hgt.apart hb1 h1 h2 (e ▸ hk))) (fun _ _ x => x)
  clear h hb hb1 hgt H h1 h2 hx hl hbB
  go_wp2
  go_end0
  go_wp2
  go_end0
  exact ⟨rfl, H2, hB⟩

set_option maxHeartbeats 400000 in
theorem b32_false (w : World) : Calls Try.prog 138 #[.bool false] w fun e w' => e = .returned (.int .u32 0) ∧ w = w' := by
  go_enter Try.func138, Try.ntmps138
  go_wp2
  go_ret
  exact ⟨rfl, rfl⟩
set_option maxHeartbeats 400000 in
theorem bool_store_false (a : Addr) (w : World) (u : Value) (hc : w.cell? a = some u) (hf : w.frozen? a = false) :
    Calls Try.prog 121 #[.pointer (some a), .bool false] w fun e w' => e = .returned (.tuple #[]) ∧ w' = w.drew.setCell a (.int .u32 0) := by
  have hc1 : w.drew.cell? a = some u := hc
  have hf1 : w.drew.frozen? a = false := hf
  have hrun := run_call_store (P := Try.prog) Try.func137 (by kernel_rfl) (by kernel_rfl) (by kernel_rfl) (by kernel_rfl) hc1 hf1 (v := .int .u32 0) rfl
  go_enter Try.func121, Try.ntmps121
  go_region_with (go_at_call 138; refine (b32_false _).mono ?_; rintro e w' ⟨rfl, rfl⟩)
  go_end0
  exact ⟨rfl, rfl⟩

set_option maxHeartbeats 400000 in
theorem mark_load_false (B : Nat) (g : Option Nat) (ks : List Int) (b o T : Nat) (xs : List Value) (w : World) (h : GAtI w B g ks) (hbB : B ≤ w.heap.size) (hl : ks.length ≤ 1000000000) (hb : Blk w b T xs) (h1 : T ≠ TT) (h2 : T ≠ ti) (hx : xs[o]? = some (.int .u32 0)) :
    Calls Try.prog 105 #[.pointer (some ⟨b, o, none⟩), gvI g] w fun e w' => e = .returned (.bool false) ∧ StepI B g w w' (ks ++ [1]) (fun _ => False) := by
  go_enter Try.func105, Try.ntmps105
  go_wp2_with fail
  refine (pass_any B g ks 1 w h hbB hl).mono ?_
  rintro e w1 ⟨rfl, H⟩
  have hb1 := H.blk h hb h1 h2 (fun x => x)
  have hgt := H.gate

  have hc1 : w1.cell? ⟨b, o, none⟩ = some (.int .u32 0) := by rw [hb1.cell o]; exact hx
  have hrun := run_call_load_int (P := Try.prog) Try.func142 (by kernel_rfl) (by kernel_rfl) (by kernel_rfl) .u32 (by kernel_rfl) hc1
  clear h hb hb1 hgt h1 h2 hx hl hbB
  go_wp2
  go_ret
  exact ⟨rfl, H⟩

set_option maxHeartbeats 400000 in
theorem mark_loadn_false (b o T : Nat) (xs : List Value) (w : World) (hb : Blk w b T xs) (hx : xs[o]? = some (.int .u32 0)) :
    Calls Try.prog 105 #[.pointer (some ⟨b, o, none⟩), .nilIface] w fun e w' => e = .returned (.bool false) ∧ w = w' := by
  have hc1 : w.cell? ⟨b, o, none⟩ = some (.int .u32 0) := by rw [hb.cell o]; exact hx
  have hrun := run_call_load_int (P := Try.prog) Try.func142 (by kernel_rfl) (by kernel_rfl) (by kernel_rfl) .u32 (by kernel_rfl) hc1
  clear hb hx
  go_enter Try.func105, Try.ntmps105
  go_wp2_with fail
  refine (pass_nil _ w).mono ?_
  rintro e w1 ⟨rfl, rfl⟩
  go_wp2
  go_ret
  exact ⟨rfl, rfl⟩

set_option maxHeartbeats 400000 in
theorem mark_store_false (B : Nat) (g : Option Nat) (ks : List Int) (b o T : Nat) (xs : List Value) (w : World) (h : GAtI w B g ks) (hbB : B ≤ w.heap.size) (hl : ks.length ≤ 1000000000) (hb : Blk w b T xs) (h1 : T ≠ TT) (h2 : T ≠ ti) (u : Value) (hx : xs[o]? = some u) :
    Calls Try.prog 87 #[.pointer (some ⟨b, o, none⟩), gvI g, .bool false] w fun e w' => e = .returned (.tuple #[]) ∧ StepI B g w w' (ks ++ [2]) (fun k => k = b) ∧ Blk w' b T (xs.set o (.int .u32 0)) := by
  go_enter Try.func87, Try.ntmps87
  go_wp2_with fail
  refine (pass_any B g ks 2 w h hbB hl).mono ?_
  rintro e w1 ⟨rfl, H⟩
  have hb1 := H.blk h hb h1 h2 (fun x => x)
  have hgt := H.gate

  have hc1 : w1.cell? ⟨b, o, none⟩ = some u := by rw [hb1.cell o]; exact hx
  have hf1 : w1.frozen? ⟨b, o, none⟩ = false := hb1.free _ rfl
  have hB : Blk (w1.drew.setCell ⟨b, o, none⟩ (.int .u32 0)) b T (xs.set o (.int .u32 0)) := hb1.drew.set o (.int .u32 0)
  have H2 : StepI B g w (w1.drew.setCell ⟨b, o, none⟩ (.int .u32 0)) (ks ++ [2]) (fun k => k = b) :=
    (H.mono (S' := fun k => k = b) (fun _ _ x => x.elim)).trans (hgt.fr ((Fr.refl w1 (fun k => k = b)).drew.setCell _ _ (fun _ => rfl)) (fun k hk e => hgt.apart hb1 h1 h2 (e ▸ hk))) (fun _ _ x => x)
  clear h hb hb1 hgt H h1 h2 hx hl hbB
  go_wp2_with fail
  refine (bool_store_false _ w1 u hc1 hf1).mono ?_
  rintro e w2 ⟨rfl, rfl⟩
  go_wp2
  go_end0
  exact ⟨rfl, H2, hB⟩

set_option maxHeartbeats 400000 in
theorem b32_true (w : World) : Calls Try.prog 138 #[.bool true] w fun e w' => e = .returned (.int .u32 1) ∧ w = w' := by
  go_enter Try.func138, Try.ntmps138
  go_wp2
  go_ret
  exact ⟨rfl, rfl⟩
set_option maxHeartbeats 400000 in
theorem bool_store_true (a : Addr) (w : World) (u : Value) (hc : w.cell? a = some u) (hf : w.frozen? a = false) :
    Calls Try.prog 121 #[.pointer (some a), .bool true] w fun e w' => e = .returned (.tuple #[]) ∧ w' = w.drew.setCell a (.int .u32 1) := by
  have hc1 : w.drew.cell? a = some u := hc
  have hf1 : w.drew.frozen? a = false := hf
  have hrun := run_call_store (P := Try.prog) Try.func137 (by kernel_rfl) (by kernel_rfl) (by kernel_rfl) (by kernel_rfl) hc1 hf1 (v := .int .u32 1) rfl
  go_enter Try.func121, Try.ntmps121
  go_region_with (go_at_call 138; refine (b32_true _).mono ?_; rintro e w' ⟨rfl, rfl⟩)
  go_end0
  exact ⟨rfl, rfl⟩

set_option maxHeartbeats 400000 in
theorem mark_load_true (B : Nat) (g : Option Nat) (ks : List Int) (b o T : Nat) (xs : List Value) (w : World) (h : GAtI w B g ks) (hbB : B ≤ w.heap.size) (hl : ks.length ≤ 1000000000) (hb : Blk w b T xs) (h1 : T ≠ TT) (h2 : T ≠ ti) (hx : xs[o]? = some (.int .u32 1)) :
    Calls Try.prog 105 #[.pointer (some ⟨b, o, none⟩), gvI g] w fun e w' => e = .returned (.bool true) ∧ StepI B g w w' (ks ++ [1]) (fun _ => False) := by
  go_enter Try.func105, Try.ntmps105
  go_wp2_with fail
  refine (pass_any B g ks 1 w h hbB hl).mono ?_
  rintro e w1 ⟨rfl, H⟩
  have hb1 := H.blk h hb h1 h2 (fun x => x)
  have hgt := H.gate

  have hc1 : w1.cell? ⟨b, o, none⟩ = some (.int .u32 1) := by rw [hb1.cell o]; exact hx
  have hrun := run_call_load_int (P := Try.prog) Try.func142 (by kernel_rfl) (by kernel_rfl) (by kernel_rfl) .u32 (by kernel_rfl) hc1
  clear h hb hb1 hgt h1 h2 hx hl hbB
  go_wp2
  go_ret
  exact ⟨rfl, H⟩

set_option maxHeartbeats 400000 in
theorem mark_loadn_true (b o T : Nat) (xs : List Value) (w : World) (hb : Blk w b T xs) (hx : xs[o]? = some (.int .u32 1)) :
    Calls Try.prog 105 #[.pointer (some ⟨b, o, none⟩), .nilIface] w fun e w' => e = .returned (.bool true) ∧ w = w' := by
  have hc1 : w.cell? ⟨b, o, none⟩ = some (.int .u32 1) := by rw [hb.cell o]; exact hx
  have hrun := run_call_load_int (P := Try.prog) Try.func142 (by kernel_rfl) (by kernel_rfl) (by kernel_rfl) .u32 (by kernel_rfl) hc1
  clear hb hx
  go_enter Try.func105, Try.ntmps105
  go_wp2_with fail
  refine (pass_nil _ w).mono ?_
  rintro e w1 ⟨rfl, rfl⟩
  go_wp2
  go_ret
  exact ⟨rfl, rfl⟩

set_option maxHeartbeats 400000 in
theorem mark_store_true (B : Nat) (g : Option Nat) (ks : List Int) (b o T : Nat) (xs : List Value) (w : World) (h : GAtI w B g ks) (hbB : B ≤ w.heap.size) (hl : ks.length ≤ 1000000000) (hb : Blk w b T xs) (h1 : T ≠ TT) (h2 : T ≠ ti) (u : Value) (hx : xs[o]? = some u) :
    Calls Try.prog 87 #[.pointer (some ⟨b, o, none⟩), gvI g, .bool true] w fun e w' => e = .returned (.tuple #[]) ∧ StepI B g w w' (ks ++ [2]) (fun k => k = b) ∧ Blk w' b T (xs.set o (.int .u32 1)) := by
  go_enter Try.func87, Try.ntmps87
  go_wp2_with fail
  refine (pass_any B g ks 2 w h hbB hl).mono ?_
  rintro e w1 ⟨rfl, H⟩
  have hb1 := H.blk h hb h1 h2 (fun x => x)
  have hgt := H.gate

  have hc1 : w1.cell? ⟨b, o, none⟩ = some u := by rw [hb1.cell o]; exact hx
  have hf1 : w1.frozen? ⟨b, o, none⟩ = false := hb1.free _ rfl
  have hB : Blk (w1.drew.setCell ⟨b, o, none⟩ (.int .u32 1)) b T (xs.set o (.int .u32 1)) := hb1.drew.set o (.int .u32 1)
  have H2 : StepI B g w (w1.drew.setCell ⟨b, o, none⟩ (.int .u32 1)) (ks ++ [2]) (fun k => k = b) :=
    (H.mono (S' := fun k => k = b) (fun _ _ x => x.elim)).trans (hgt.fr ((Fr.refl w1 (fun k => k = b)).drew.setCell _ _ (fun _ => rfl)) (fun k hk e => hgt.apart hb1 h1 h2 (e ▸ hk))) (fun _ _ x => x)
  clear h hb hb1 hgt H h1 h2 hx hl hbB
  go_wp2_with fail
  refine (bool_store_true _ w1 u hc1 hf1).mono ?_
  rintro e w2 ⟨rfl, rfl⟩
  go_wp2
  go_end0
  exact ⟨rfl, H2, hB⟩
end Go.Proofs.Ytphhdmopfmelbaa

/-
  Data-records and SCX-records in memory, by the blocks at which they stand. No program in sight.
-/
namespace Go.Proofs.Ytphhdmopfmelbaa
open Go.RowKit
set_option linter.unusedVariables false

/-- A data-record: what it holds, the block of its fields, its fields' records (blocks), its info, its mark. -/
structure RecO where
  data : List Value
  fb : Nat
  fields : List (Option Nat)
  info : Option Nat
  mark : Bool
def u32b (b : Bool) : Value := .int .u32 (if b then 1 else 0)
def RecO.tail (o : RecO) : List Value := [.slice (some ⟨o.fb, 0, none⟩) o.fields.length o.fields.length, pv o.info, u32b o.mark]
def RecO.cells (o : RecO) : List Value := o.data ++ o.tail
/-- An SCX-record: its three slices as values, where its field is, from what to what, its state, whether all is frozen. -/
structure ScxO where
  sv : Value
  si : Value
  sf : Value
  at_ : Int
  fld : Int
  old : Option Nat
  new : Option Nat
  state : Int
  frozen : Bool
def ScxO.cells (s : ScxO) : List Value := [s.sv, s.si, s.sf, .int .i64 s.at_, .int .i64 s.fld, pv s.old, pv s.new, .int .i64 s.state, u32b s.frozen]

/-- One place of a map is another. -/
def upd {α : Type} (R : Nat → Option α) (b : Nat) (o : α) : Nat → Option α := fun k => if k = b then some o else R k
theorem upd_self {α : Type} (R : Nat → Option α) (b : Nat) (o : α) : upd R b o b = some o := by simp [upd]
theorem upd_ne {α : Type} (R : Nat → Option α) {b k : Nat} (o : α) (h : k ≠ b) : upd R b o k = R k := by simp [upd, h]
theorem upd_cases {α : Type} {R : Nat → Option α} {b k : Nat} {o o' : α} (h : upd R b o k = some o') : (k = b ∧ o' = o) ∨ (k ≠ b ∧ R k = some o') := by
  unfold upd at h
  split at h
  · exact .inl ⟨‹_›, (Option.some.inj h).symm⟩
  · exact .inr ⟨‹_›, h⟩

/-- The memory holds these data-records and SCX-records. TR: the record's type, dl: how many cells its contents have; TC: the fields' cells' type; TX: the SCX-record's type. -/
structure Rep (TR dl TC TX : Nat) (w : World) (R : Nat → Option RecO) (X : Nat → Option ScxO) : Prop where
  recs : ∀ b o, R b = some o → Blk w b TR o.cells ∧ o.data.length = dl
  fld : ∀ b o, R b = some o → Blk w o.fb TC (o.fields.map pv)
  inj : ∀ b o b' o', R b = some o → R b' = some o' → o.fb = o'.fb → b = b'
  scx : ∀ b s, X b = some s → Blk w b TX s.cells
  kf : ∀ b o, R b = some o → ∀ x, some x ∈ o.fields → (R x).isSome
  ki : ∀ b o, R b = some o → ∀ x, o.info = some x → (X x).isSome

/-- x is nil, or one of R. -/
def Ok {α : Type} (R : Nat → Option α) (x : Option Nat) : Prop := ∀ b, x = some b → (R b).isSome
theorem Ok.none {α : Type} (R : Nat → Option α) : Ok R none := fun _ h => by cases h
theorem Ok.of {α : Type} {R : Nat → Option α} {b : Nat} {o : α} (h : R b = some o) : Ok R (some b) := fun b' e => by cases e; simp [h]
theorem Ok.upd {α : Type} {R : Nat → Option α} {x : Option Nat} (h : Ok R x) (b : Nat) (o : α) : Ok (upd R b o) x := fun b' e => by
  have := h b' e
  unfold Go.Proofs.Ytphhdmopfmelbaa.upd
  split <;> simp_all

section
variable {TR dl TC TX : Nat} {w w' : World} {R : Nat → Option RecO} {X : Nat → Option ScxO}
theorem RecO.cells_length (o : RecO) : o.cells.length = o.data.length + 3 := by simp [RecO.cells, RecO.tail]
theorem Rep.recPtr (h : Rep TR dl TC TX w R X) {x : Option Nat} (hx : Ok R x) : PtrTo TR (dl + 3) w x := fun b e => by
  obtain ⟨o, ho⟩ := Option.isSome_iff_exists.1 (hx b e)
  obtain ⟨hb, hl⟩ := h.recs b o ho
  exact ⟨_, hb, by rw [RecO.cells_length, hl]⟩
theorem Rep.scxPtr (h : Rep TR dl TC TX w R X) {x : Option Nat} (hx : Ok X x) : PtrTo TX 9 w x := fun b e => by
  obtain ⟨s, hs⟩ := Option.isSome_iff_exists.1 (hx b e)
  exact ⟨_, h.scx b s hs, rfl⟩
theorem Rep.okField (h : Rep TR dl TC TX w R X) {b : Nat} {o : RecO} (ho : R b = some o) {i : Nat} {p : Option Nat} (hp : o.fields[i]? = some p) : Ok R p := fun x e => by
  subst e
  exact h.kf b o ho x (List.mem_of_getElem? hp)
theorem Rep.okInfo (h : Rep TR dl TC TX w R X) {b : Nat} {o : RecO} (ho : R b = some o) : Ok X o.info := fun x e => h.ki b o ho x e
/-- The cells of a record. -/
theorem Rep.cell (h : Rep TR dl TC TX w R X) {b : Nat} {o : RecO} (ho : R b = some o) (j : Nat) : w.cell? ⟨b, dl + j, none⟩ = o.tail[j]? := by
  obtain ⟨hb, hl⟩ := h.recs b o ho
  rw [hb.cell, ← hl, RecO.cells, List.getElem?_append_right (by omega)]
  congr 1; omega
theorem Rep.at_ (h : Rep TR dl TC TX w R X) {b : Nat} {o : RecO} (ho : R b = some o) (j : Nat) : o.cells[dl + j]? = o.tail[j]? := by
  obtain ⟨hb, hl⟩ := h.recs b o ho
  rw [← hl, RecO.cells, List.getElem?_append_right (by omega)]
  congr 1; omega
theorem RecO.set_tail (o : RecO) (hl : o.data.length = dl) (j : Nat) (v : Value) : o.cells.set (dl + j) v = o.data ++ o.tail.set j v := by
  subst hl
  rw [RecO.cells, List.set_append_right _ _ (by omega)]
  congr 2; omega
/-- Other blocks have turned. -/
theorem Rep.fr (h : Rep TR dl TC TX w R X) {S : Nat → Prop} (hf : Fr w w' S) (hR : ∀ b o, R b = some o → ¬ S b ∧ ¬ S o.fb) (hX : ∀ b s, X b = some s → ¬ S b) : Rep TR dl TC TX w' R X :=
  ⟨fun b o ho => ⟨hf.blk (h.recs b o ho).1 (hR b o ho).1, (h.recs b o ho).2⟩, fun b o ho => hf.blk (h.fld b o ho) (hR b o ho).2, h.inj, fun b s hs => hf.blk (h.scx b s hs) (hX b s hs), h.kf, h.ki⟩
theorem Rep.below (h : Rep TR dl TC TX w R X) (hb : Below w.heap.size w w') : Rep TR dl TC TX w' R X :=
  h.fr (S := fun _ => False) (Fr.of_below0 hb) (fun _ _ _ => ⟨id, id⟩) (fun _ _ _ => id)
/-- Blocks of other types have turned. -/
theorem Rep.types (h : Rep TR dl TC TX w R X) {S : Nat → Prop} (hf : Fr w w' S) (hS : ∀ k, S k → ∃ T ys, Blk w k T ys ∧ T ≠ TR ∧ T ≠ TC ∧ T ≠ TX) : Rep TR dl TC TX w' R X := by
  refine h.fr hf (fun b o ho => ⟨fun hs => ?_, fun hs => ?_⟩) (fun b s hs' hs => ?_)
  · obtain ⟨T, ys, hb, h1, _⟩ := hS _ hs
    exact h1 (hb.inj (h.recs b o ho).1).1
  · obtain ⟨T, ys, hb, _, h1, _⟩ := hS _ hs
    exact h1 (hb.inj (h.fld b o ho)).1
  · obtain ⟨T, ys, hb, _, _, h1⟩ := hS _ hs
    exact h1 (hb.inj (h.scx b s hs')).1
theorem Rep.empty (TR dl TC TX : Nat) (w : World) : Rep TR dl TC TX w (fun _ => none) (fun _ => none) := ⟨(fun _ _ h => by cases h), (fun _ _ h => by cases h), (fun _ _ _ _ h => by cases h), (fun _ _ h => by cases h), (fun _ _ h => by cases h), (fun _ _ h => by cases h)⟩
variable {TT ti B : Nat} {g : Option Nat} {ks ks' : List Int}
/-- The types of these blocks are none of a tape's. -/
structure Tys (TR TC TX TT ti : Nat) : Prop where
  r1 : TR ≠ TT
  r2 : TR ≠ ti
  c1 : TC ≠ TT
  c2 : TC ≠ ti
  x1 : TX ≠ TT
  x2 : TX ≠ ti
  rc : TR ≠ TC
  rx : TR ≠ TX
  cx : TC ≠ TX
theorem Rep.step (h : Rep TR dl TC TX w R X) (ht : Tys TR TC TX TT ti) (hg : GAt TT ti w B g ks) (hs : Step TT ti B g w w' ks' (fun _ => False)) : Rep TR dl TC TX w' R X :=
  ⟨fun b o ho => ⟨hs.blk hg (h.recs b o ho).1 ht.r1 ht.r2 id, (h.recs b o ho).2⟩, fun b o ho => hs.blk hg (h.fld b o ho) ht.c1 ht.c2 id, h.inj, fun b s hs' => hs.blk hg (h.scx b s hs') ht.x1 ht.x2 id, h.kf, h.ki⟩
/-- One record's fields have turned. -/
theorem Rep.setFields (h : Rep TR dl TC TX w R X) (ht : Tys TR TC TX TT ti) (hg : GAt TT ti w B g ks) {b : Nat} {o : RecO} (ho : R b = some o) (hs : Step TT ti B g w w' ks' (fun k => k = o.fb))
    {fs : List (Option Nat)} (hl : fs.length = o.fields.length) (hb : Blk w' o.fb TC (fs.map pv)) (hk : ∀ x, some x ∈ fs → (R x).isSome) : Rep TR dl TC TX w' (upd R b { o with fields := fs }) X := by
  have hne : ∀ {k T xs}, Blk w k T xs → T ≠ TC → k ≠ o.fb := fun hk hT e => by
    subst e
    exact hT (hk.inj (h.fld b o ho)).1
  refine ⟨fun k o' ho' => ?_, fun k o' ho' => ?_, fun k o' k' o'' h1 h2 he => ?_, fun k s hs' => ?_, fun k o' ho' x hx => ?_, fun k o' ho' x hx => ?_⟩
  · rcases upd_cases ho' with ⟨rfl, rfl⟩ | ⟨_, ho'⟩
    · obtain ⟨hb0, hl0⟩ := h.recs _ _ ho
      have hc : RecO.cells { o with fields := fs } = o.cells := by simp [RecO.cells, RecO.tail, hl]
      rw [hc]
      exact ⟨hs.blk hg hb0 ht.r1 ht.r2 (hne hb0 ht.rc), hl0⟩
    · obtain ⟨hb0, hl0⟩ := h.recs _ _ ho'
      exact ⟨hs.blk hg hb0 ht.r1 ht.r2 (hne hb0 ht.rc), hl0⟩
  · rcases upd_cases ho' with ⟨rfl, rfl⟩ | ⟨hkb, ho'⟩
    · exact hb
    · exact hs.blk hg (h.fld _ _ ho') ht.c1 ht.c2 (fun e => hkb (h.inj _ _ _ _ ho' ho e))
  · rcases upd_cases h1 with ⟨rfl, rfl⟩ | ⟨n1, j1⟩ <;> rcases upd_cases h2 with ⟨rfl, rfl⟩ | ⟨n2, j2⟩
    · rfl
    · exact h.inj _ _ _ _ ho j2 he
    · exact h.inj _ _ _ _ j1 ho he
    · exact h.inj _ _ _ _ j1 j2 he
  · exact hs.blk hg (h.scx _ _ hs') ht.x1 ht.x2 (hne (h.scx _ _ hs') ht.cx.symm)
  · have hs2 : ∀ x, (R x).isSome → (upd R b { o with fields := fs } x).isSome := fun x hx => by
      unfold upd; split <;> simp_all
    rcases upd_cases ho' with ⟨rfl, rfl⟩ | ⟨_, ho'⟩
    · exact hs2 x (hk x hx)
    · exact hs2 x (h.kf _ _ ho' x hx)
  · rcases upd_cases ho' with ⟨rfl, rfl⟩ | ⟨_, ho'⟩
    · exact h.ki _ _ ho x hx
    · exact h.ki _ _ ho' x hx
/-- One record's own block has turned: its info, or its mark. -/
theorem Rep.setRec (h : Rep TR dl TC TX w R X) (ht : Tys TR TC TX TT ti) (hg : GAt TT ti w B g ks) {b : Nat} {o : RecO} (ho : R b = some o) (hs : Step TT ti B g w w' ks' (fun k => k = b))
    {o' : RecO} (hd' : o'.data = o.data) (hfb : o'.fb = o.fb) (hfs : o'.fields = o.fields) (hb : Blk w' b TR o'.cells) (hk : Ok X o'.info) : Rep TR dl TC TX w' (upd R b o') X := by
  have hne : ∀ {k T xs}, Blk w k T xs → T ≠ TR → k ≠ b := fun hk hT e => by
    subst e
    exact hT (hk.inj (h.recs _ _ ho).1).1
  refine ⟨fun k o1 ho' => ?_, fun k o1 ho' => ?_, fun k o1 k' o2 h1 h2 he => ?_, fun k s hs' => ?_, fun k o1 ho' x hx => ?_, fun k o1 ho' x hx => ?_⟩
  · rcases upd_cases ho' with ⟨rfl, rfl⟩ | ⟨hkb, ho'⟩
    · exact ⟨hb, by rw [hd']; exact (h.recs _ _ ho).2⟩
    · exact ⟨hs.blk hg (h.recs _ _ ho').1 ht.r1 ht.r2 hkb, (h.recs _ _ ho').2⟩
  · rcases upd_cases ho' with ⟨rfl, rfl⟩ | ⟨hkb, ho'⟩
    · rw [hfb, hfs]
      exact hs.blk hg (h.fld _ _ ho) ht.c1 ht.c2 (hne (h.fld _ _ ho) ht.rc.symm)
    · exact hs.blk hg (h.fld _ _ ho') ht.c1 ht.c2 (hne (h.fld _ _ ho') ht.rc.symm)
  · rcases upd_cases h1 with ⟨rfl, rfl⟩ | ⟨n1, j1⟩ <;> rcases upd_cases h2 with ⟨rfl, rfl⟩ | ⟨n2, j2⟩
    · rfl
    · exact h.inj _ _ _ _ ho j2 (by rw [← hfb]; exact he)
    · exact h.inj _ _ _ _ j1 ho (by rw [← hfb]; exact he)
    · exact h.inj _ _ _ _ j1 j2 he
  · exact hs.blk hg (h.scx _ _ hs') ht.x1 ht.x2 (hne (h.scx _ _ hs') ht.rx.symm)
  · have hs2 : ∀ x, (R x).isSome → (upd R b o' x).isSome := fun x hx => by
      unfold upd; split <;> simp_all
    rcases upd_cases ho' with ⟨rfl, rfl⟩ | ⟨_, ho'⟩
    · rw [hfs] at hx; exact hs2 x (h.kf _ _ ho x hx)
    · exact hs2 x (h.kf _ _ ho' x hx)
  · rcases upd_cases ho' with ⟨rfl, rfl⟩ | ⟨_, ho'⟩
    · exact hk x hx
    · exact h.ki _ _ ho' x hx
/-- One SCX-record has turned. -/
theorem Rep.setScx (h : Rep TR dl TC TX w R X) (ht : Tys TR TC TX TT ti) (hg : GAt TT ti w B g ks) {b : Nat} {s : ScxO} (hso : X b = some s) (hs : Step TT ti B g w w' ks' (fun k => k = b))
    {s' : ScxO} (hb : Blk w' b TX s'.cells) : Rep TR dl TC TX w' R (upd X b s') := by
  have hne : ∀ {k T xs}, Blk w k T xs → T ≠ TX → k ≠ b := fun hk hT e => by
    subst e
    exact hT (hk.inj (h.scx _ _ hso)).1
  refine ⟨fun k o1 ho' => ⟨hs.blk hg (h.recs _ _ ho').1 ht.r1 ht.r2 (hne (h.recs _ _ ho').1 ht.rx), (h.recs _ _ ho').2⟩, fun k o1 ho' => hs.blk hg (h.fld _ _ ho') ht.c1 ht.c2 (hne (h.fld _ _ ho') ht.cx), h.inj, fun k s1 hs' => ?_, h.kf, fun k o1 ho' x hx => ?_⟩
  · rcases upd_cases hs' with ⟨rfl, rfl⟩ | ⟨hkb, hs'⟩
    · exact hb
    · exact hs.blk hg (h.scx _ _ hs') ht.x1 ht.x2 hkb
  · have := h.ki _ _ ho' x hx
    unfold upd
    split <;> simp_all
/-- A new record, with its own first SCX-record. -/
theorem Rep.addRec (h : Rep TR dl TC TX w R X) (hbel : Below w.heap.size w w') {b fb : Nat} {o : RecO} (hb : w.heap.size ≤ b) (hfb : w.heap.size ≤ o.fb) (hr : Blk w' b TR o.cells) (hd' : o.data.length = dl)
    (hf : Blk w' o.fb TC (o.fields.map pv)) (hk : ∀ x, some x ∈ o.fields → (R x).isSome) {xb : Nat} {s : ScxO} (hi : o.info = some xb) (hx : w.heap.size ≤ xb) (hs : Blk w' xb TX s.cells) :
    Rep TR dl TC TX w' (upd R b o) (upd X xb s) := by
  have h' := h.below hbel
  have old : ∀ {k o1}, R k = some o1 → k < w.heap.size ∧ o1.fb < w.heap.size := fun h1 => ⟨(h.recs _ _ h1).1.lt, (h.fld _ _ h1).lt⟩
  refine ⟨fun k o1 ho' => ?_, fun k o1 ho' => ?_, fun k o1 k' o2 h1 h2 he => ?_, fun k s1 hs' => ?_, fun k o1 ho' x hx => ?_, fun k o1 ho' x hx' => ?_⟩
  · rcases upd_cases ho' with ⟨rfl, rfl⟩ | ⟨_, ho'⟩
    · exact ⟨hr, hd'⟩
    · exact h'.recs _ _ ho'
  · rcases upd_cases ho' with ⟨rfl, rfl⟩ | ⟨_, ho'⟩
    · exact hf
    · exact h'.fld _ _ ho'
  · rcases upd_cases h1 with ⟨rfl, rfl⟩ | ⟨n1, j1⟩ <;> rcases upd_cases h2 with ⟨rfl, rfl⟩ | ⟨n2, j2⟩
    · rfl
    · have := (old j2).2; omega
    · have := (old j1).2; omega
    · exact h.inj _ _ _ _ j1 j2 he
  · rcases upd_cases hs' with ⟨rfl, rfl⟩ | ⟨_, hs'⟩
    · exact hs
    · exact h'.scx _ _ hs'
  · have hs2 : ∀ x, (R x).isSome → (upd R b o x).isSome := fun x hx => by
      unfold upd; split <;> simp_all
    rcases upd_cases ho' with ⟨rfl, rfl⟩ | ⟨_, ho'⟩
    · exact hs2 x (hk x hx)
    · exact hs2 x (h.kf _ _ ho' x hx)
  · rcases upd_cases ho' with ⟨rfl, rfl⟩ | ⟨_, ho'⟩
    · rw [hi] at hx'; cases hx'; simp [upd]
    · have := h.ki _ _ ho' x hx'
      unfold upd; split <;> simp_all
/-- A new SCX-record. -/
theorem Rep.addScx (h : Rep TR dl TC TX w R X) (hbel : Below w.heap.size w w') {xb : Nat} {s : ScxO} (hs : Blk w' xb TX s.cells) : Rep TR dl TC TX w' R (upd X xb s) := by
  have h' := h.below hbel
  refine ⟨h'.recs, h'.fld, h'.inj, fun k s1 hs' => ?_, h.kf, fun k o1 ho' x hx' => ?_⟩
  · rcases upd_cases hs' with ⟨rfl, rfl⟩ | ⟨_, hs'⟩
    · exact hs
    · exact h'.scx _ _ hs'
  · have := h.ki _ _ ho' x hx'
    unfold upd; split <;> simp_all
end
end Go.Proofs.Ytphhdmopfmelbaa

/- Data-records and SCX-records: each access by a gate. Written by mk.py. -/
namespace Go.Proofs.Ytphhdmopfmelbaa
open Go.RowKit Go.Proofs.YtphhdmopfmelbaaW.PrintWords
set_option linter.unusedVariables false
set_option linter.unusedSimpArgs false

abbrev Repint := Rep 178 1 170 152
theorem tys_int : Tys 178 170 152 TT ti := ⟨by decide, by decide, by decide, by decide, by decide, by decide, by decide, by decide, by decide⟩

set_option maxHeartbeats 400000 in
theorem len_int (R : Nat → Option RecO) (X : Nat → Option ScxO) (w : World) (h : Repint w R X) (b : Nat) (o : RecO) (ho : R b = some o) :
    Calls Try.prog 98 #[pv (some b)] w fun e w' => e = .returned (.int .i64 o.fields.length) ∧ w = w' := by
  have hc : w.cell? ⟨b, 1, none⟩ = some (.slice (some ⟨o.fb, 0, none⟩) o.fields.length o.fields.length) := h.cell ho 0
  show Calls Try.prog 98 #[.pointer (some ⟨b, 0, none⟩)] w _
  go_enter Try.func98, Try.ntmps98
  go_wp2
  go_ret
  exact ⟨rfl, rfl⟩

set_option maxHeartbeats 400000 in
theorem get_int (B : Nat) (g : Option Nat) (ks : List Int) (R : Nat → Option RecO) (X : Nat → Option ScxO) (w : World) (h : Repint w R X) (hg : GAtI w B g ks) (hbB : B ≤ w.heap.size) (hl : ks.length ≤ 1000000000) (b : Nat) (o : RecO) (ho : R b = some o) (i : Int) (i0 : 0 ≤ i) (i1 : i < o.fields.length) :
    Calls Try.prog 94 #[pv (some b), gvI g, .int .i64 i] w fun e w' => e = .returned (pv (o.fields.getD i.toNat none)) ∧ StepI B g w w' (ks ++ [1]) (fun _ => False) ∧ Repint w' R X := by
  have hc : w.cell? ⟨b, 1, none⟩ = some (.slice (some ⟨o.fb, 0, none⟩) o.fields.length o.fields.length) := h.cell ho 0
  have hlt : i.toNat < o.fields.length := by omega
  have hx0 : o.fields[i.toNat]? = some (o.fields.getD i.toNat none) := by simp [List.getD_eq_getElem?_getD, List.getElem?_eq_getElem hlt]
  have hx : (o.fields.map pv)[i.toNat]? = some (pv (o.fields.getD i.toNat none)) := by rw [List.getElem?_map, hx0]; rfl
  have C := cell_load_Recordint B g ks o.fb i.toNat 170 _ w hg hbB hl (h.fld b o ho) (by decide) (by decide) _ hx (h.recPtr (h.okField ho hx0))
  have HS := fun w' hs => h.step tys_int hg (w' := w') (ks' := ks ++ [1]) hs
  generalize o.fields.getD i.toNat none = p at *
  clear hx hx0 h hg
  show Calls Try.prog 94 #[.pointer (some ⟨b, 0, none⟩), gvI g, .int .i64 i] w _
  have HC := Lib.hid C
  have HS' := Lib.hid HS
  clear C HS
  go_enter Try.func94, Try.ntmps94
  go_wp2_with fail
  refine HC.out.mono ?_
  rintro e w1 ⟨rfl, H⟩
  have H2 := Lib.hid (HS'.out w1 H)
  have H1 := Lib.hid H
  clear H HC HS'
  go_wp2
  go_ret
  exact ⟨rfl, H1.out, H2.out⟩

set_option maxHeartbeats 400000 in
theorem swing_int (B : Nat) (g : Option Nat) (ks : List Int) (R : Nat → Option RecO) (X : Nat → Option ScxO) (w : World) (h : Repint w R X) (hg : GAtI w B g ks) (hbB : B ≤ w.heap.size) (hl : ks.length ≤ 1000000000) (b : Nat) (o : RecO) (ho : R b = some o) (i : Int) (i0 : 0 ≤ i) (i1 : i < o.fields.length) (x y : Option Nat) (hx : Ok R x) (hy : Ok R y) :
    Calls Try.prog 76 #[pv (some b), gvI g, .int .i64 i, pv x, pv y] w fun e w' => e = .returned (.bool (decide (o.fields.getD i.toNat none = x))) ∧ StepI B g w w' (ks ++ [5]) (fun k => k = o.fb) ∧
      Repint w' (upd R b { o with fields := if o.fields.getD i.toNat none = x then o.fields.set i.toNat y else o.fields }) X := by
  have hc : w.cell? ⟨b, 1, none⟩ = some (.slice (some ⟨o.fb, 0, none⟩) o.fields.length o.fields.length) := h.cell ho 0
  have hlt : i.toNat < o.fields.length := by omega
  have hx0 : o.fields[i.toNat]? = some (o.fields.getD i.toNat none) := by simp [List.getD_eq_getElem?_getD, List.getElem?_eq_getElem hlt]
  have hx1 : (o.fields.map pv)[i.toNat]? = some (pv (o.fields.getD i.toNat none)) := by rw [List.getElem?_map, hx0]; rfl
  have C := cell_cas_Recordint B g ks o.fb i.toNat 170 _ w hg hbB hl (h.fld b o ho) (by decide) (by decide) _ x y hx1 (h.recPtr (h.okField ho hx0)) (h.recPtr hx) (h.recPtr hy)
  have HS : ∀ w', StepI B g w w' (ks ++ [5]) (fun k => k = o.fb) → Blk w' o.fb 170 (if o.fields.getD i.toNat none = x then (o.fields.map pv).set i.toNat (pv y) else o.fields.map pv) →
      Repint w' (upd R b { o with fields := if o.fields.getD i.toNat none = x then o.fields.set i.toNat y else o.fields }) X := fun w' hs hb => by
    refine h.setFields tys_int hg ho hs ?_ ?_ ?_
    · split <;> simp
    · split at hb
      · rw [if_pos ‹_›, List.map_set]; exact hb
      · rw [if_neg ‹_›]; exact hb
    · intro z hz
      split at hz
      · rcases List.mem_or_eq_of_mem_set hz with hz | hz
        · exact h.kf b o ho z hz
        · exact hy z hz.symm
      · exact h.kf b o ho z hz
  generalize o.fields.getD i.toNat none = p at *
  clear hx hx0 hx1 hy h hg
  show Calls Try.prog 76 #[.pointer (some ⟨b, 0, none⟩), gvI g, .int .i64 i, pv x, pv y] w _
  refine calls_hide fun Q HQ => ?_
  have HQ' := Lib.hid HQ
  clear HQ
  have HC := Lib.hid C
  have HS' := Lib.hid HS
  clear C HS
  go_enter Try.func76, Try.ntmps76
  go_wp2_with fail
  refine HC.out.mono ?_
  rintro e w1 ⟨rfl, H, hb⟩
  have H2 := Lib.hid (HS'.out w1 H hb)
  have H1 := Lib.hid H
  clear H HC HS' hb
  go_wp2
  exact HQ'.out _ _ ⟨rfl, H1.out, H2.out⟩

set_option maxHeartbeats 400000 in
theorem info_int (B : Nat) (g : Option Nat) (ks : List Int) (R : Nat → Option RecO) (X : Nat → Option ScxO) (w : World) (h : Repint w R X) (hg : GAtI w B g ks) (hbB : B ≤ w.heap.size) (hl : ks.length ≤ 1000000000) (b : Nat) (o : RecO) (ho : R b = some o) :
    Calls Try.prog 71 #[pv (some b), gvI g] w fun e w' => e = .returned (pv o.info) ∧ StepI B g w w' (ks ++ [1]) (fun _ => False) ∧ Repint w' R X := by
  have C := cell_load_Scxint B g ks b 2 178 _ w hg hbB hl (h.recs b o ho).1 (by decide) (by decide) o.info (h.at_ ho 1) (h.scxPtr (h.okInfo ho))
  have HS := fun w' hs => h.step tys_int hg (w' := w') (ks' := ks ++ [1]) hs
  clear h hg
  show Calls Try.prog 71 #[.pointer (some ⟨b, 0, none⟩), gvI g] w _
  have HC := Lib.hid C
  have HS' := Lib.hid HS
  clear C HS
  go_enter Try.func71, Try.ntmps71
  go_wp2_with fail
  refine HC.out.mono ?_
  rintro e w1 ⟨rfl, H⟩
  have H2 := Lib.hid (HS'.out w1 H)
  have H1 := Lib.hid H
  clear H HC HS'
  go_wp2
  go_ret
  exact ⟨rfl, H1.out, H2.out⟩

set_option maxHeartbeats 400000 in
theorem freeze_int (B : Nat) (g : Option Nat) (ks : List Int) (R : Nat → Option RecO) (X : Nat → Option ScxO) (w : World) (h : Repint w R X) (hg : GAtI w B g ks) (hbB : B ≤ w.heap.size) (hl : ks.length ≤ 1000000000) (b : Nat) (o : RecO) (ho : R b = some o) (x y : Option Nat) (hx : Ok X x) (hy : Ok X y) :
    Calls Try.prog 70 #[pv (some b), gvI g, pv x, pv y] w fun e w' => e = .returned (.bool (decide (o.info = x))) ∧ StepI B g w w' (ks ++ [5]) (fun k => k = b) ∧
      Repint w' (upd R b { o with info := if o.info = x then y else o.info }) X := by
  have C := cell_cas_Scxint B g ks b 2 178 _ w hg hbB hl (h.recs b o ho).1 (by decide) (by decide) o.info x y (h.at_ ho 1) (h.scxPtr (h.okInfo ho)) (h.scxPtr hx) (h.scxPtr hy)
  have HS : ∀ w', StepI B g w w' (ks ++ [5]) (fun k => k = b) → Blk w' b 178 (if o.info = x then o.cells.set 2 (pv y) else o.cells) →
      Repint w' (upd R b { o with info := if o.info = x then y else o.info }) X := fun w' hs hb => by
    refine h.setRec tys_int hg ho hs rfl rfl rfl ?_ ?_
    · split at hb
      · rw [if_pos ‹_›]
        rw [show 2 = 1 + 1 from rfl, o.set_tail (h.recs b o ho).2] at hb
        exact hb
      · rw [if_neg ‹_›]; exact hb
    · show Ok X (if o.info = x then y else o.info)
      split
      · exact hy
      · exact h.okInfo ho
  clear hx hy h hg
  show Calls Try.prog 70 #[.pointer (some ⟨b, 0, none⟩), gvI g, pv x, pv y] w _
  refine calls_hide fun Q HQ => ?_
  have HQ' := Lib.hid HQ
  clear HQ
  have HC := Lib.hid C
  have HS' := Lib.hid HS
  clear C HS
  go_enter Try.func70, Try.ntmps70
  go_wp2_with fail
  refine HC.out.mono ?_
  rintro e w1 ⟨rfl, H, hb⟩
  have H2 := Lib.hid (HS'.out w1 H hb)
  have H1 := Lib.hid H
  clear H HC HS' hb
  go_wp2
  exact HQ'.out _ _ ⟨rfl, H1.out, H2.out⟩

set_option maxHeartbeats 400000 in
theorem marked_int (B : Nat) (g : Option Nat) (ks : List Int) (R : Nat → Option RecO) (X : Nat → Option ScxO) (w : World) (h : Repint w R X) (hg : GAtI w B g ks) (hbB : B ≤ w.heap.size) (hl : ks.length ≤ 1000000000) (b : Nat) (o : RecO) (ho : R b = some o) :
    Calls Try.prog 97 #[pv (some b), gvI g] w fun e w' => e = .returned (.bool o.mark) ∧ StepI B g w w' (ks ++ [1]) (fun _ => False) ∧ Repint w' R X := by
  have HS := fun w' hs => h.step tys_int hg (w' := w') (ks' := ks ++ [1]) hs
  have HS' := Lib.hid HS
  clear HS
  cases hm : o.mark with
  | false =>
    have C := mark_load_false B g ks b 3 178 _ w hg hbB hl (h.recs b o ho).1 (by decide) (by decide) (by rw [show 3 = 1 + 2 from rfl, h.at_ ho 2]; simp [RecO.tail, ScxO.cells, u32b, hm])
    have HC := Lib.hid C
    clear C h hg hm
    show Calls Try.prog 97 #[.pointer (some ⟨b, 0, none⟩), gvI g] w _
    go_enter Try.func97, Try.ntmps97
    go_wp2_with fail
    refine HC.out.mono ?_
    rintro e w1 ⟨rfl, H⟩
    have H2 := Lib.hid (HS'.out w1 H)
    have H1 := Lib.hid H
    clear H HC HS'
    go_wp2
    go_ret
    exact ⟨rfl, H1.out, H2.out⟩
  | true =>
    have C := mark_load_true B g ks b 3 178 _ w hg hbB hl (h.recs b o ho).1 (by decide) (by decide) (by rw [show 3 = 1 + 2 from rfl, h.at_ ho 2]; simp [RecO.tail, ScxO.cells, u32b, hm])
    have HC := Lib.hid C
    clear C h hg hm
    show Calls Try.prog 97 #[.pointer (some ⟨b, 0, none⟩), gvI g] w _
    go_enter Try.func97, Try.ntmps97
    go_wp2_with fail
    refine HC.out.mono ?_
    rintro e w1 ⟨rfl, H⟩
    have H2 := Lib.hid (HS'.out w1 H)
    have H1 := Lib.hid H
    clear H HC HS'
    go_wp2
    go_ret
    exact ⟨rfl, H1.out, H2.out⟩

set_option maxHeartbeats 400000 in
theorem allfrozen_int (B : Nat) (g : Option Nat) (ks : List Int) (R : Nat → Option RecO) (X : Nat → Option ScxO) (w : World) (h : Repint w R X) (hg : GAtI w B g ks) (hbB : B ≤ w.heap.size) (hl : ks.length ≤ 1000000000) (b : Nat) (o : ScxO) (ho : X b = some o) :
    Calls Try.prog 72 #[pv (some b), gvI g] w fun e w' => e = .returned (.bool o.frozen) ∧ StepI B g w w' (ks ++ [1]) (fun _ => False) ∧ Repint w' R X := by
  have HS := fun w' hs => h.step tys_int hg (w' := w') (ks' := ks ++ [1]) hs
  have HS' := Lib.hid HS
  clear HS
  cases hm : o.frozen with
  | false =>
    have C := mark_load_false B g ks b 8 152 _ w hg hbB hl (h.scx b o ho) (by decide) (by decide) (by simp [RecO.tail, ScxO.cells, u32b, hm])
    have HC := Lib.hid C
    clear C h hg hm
    show Calls Try.prog 72 #[.pointer (some ⟨b, 0, none⟩), gvI g] w _
    go_enter Try.func72, Try.ntmps72
    go_wp2_with fail
    refine HC.out.mono ?_
    rintro e w1 ⟨rfl, H⟩
    have H2 := Lib.hid (HS'.out w1 H)
    have H1 := Lib.hid H
    clear H HC HS'
    go_wp2
    go_ret
    exact ⟨rfl, H1.out, H2.out⟩
  | true =>
    have C := mark_load_true B g ks b 8 152 _ w hg hbB hl (h.scx b o ho) (by decide) (by decide) (by simp [RecO.tail, ScxO.cells, u32b, hm])
    have HC := Lib.hid C
    clear C h hg hm
    show Calls Try.prog 72 #[.pointer (some ⟨b, 0, none⟩), gvI g] w _
    go_enter Try.func72, Try.ntmps72
    go_wp2_with fail
    refine HC.out.mono ?_
    rintro e w1 ⟨rfl, H⟩
    have H2 := Lib.hid (HS'.out w1 H)
    have H1 := Lib.hid H
    clear H HC HS'
    go_wp2
    go_ret
    exact ⟨rfl, H1.out, H2.out⟩

set_option maxHeartbeats 400000 in
theorem mark_int (B : Nat) (g : Option Nat) (ks : List Int) (R : Nat → Option RecO) (X : Nat → Option ScxO) (w : World) (h : Repint w R X) (hg : GAtI w B g ks) (hbB : B ≤ w.heap.size) (hl : ks.length ≤ 1000000000) (b : Nat) (o : RecO) (ho : R b = some o) :
    Calls Try.prog 75 #[pv (some b), gvI g] w fun e w' => e = .returned (.tuple #[]) ∧ StepI B g w w' (ks ++ [2]) (fun k => k = b) ∧ Repint w' (upd R b { o with mark := true }) X := by
  have C := mark_store_true B g ks b 3 178 _ w hg hbB hl (h.recs b o ho).1 (by decide) (by decide) _ (h.at_ ho 2)
  have HS : ∀ w', StepI B g w w' (ks ++ [2]) (fun k => k = b) → Blk w' b 178 (o.cells.set 3 (.int .u32 1)) → Repint w' (upd R b { o with mark := true }) X := fun w' hs hb => by
    refine h.setRec tys_int hg ho hs rfl rfl rfl ?_ (fun x e => h.ki b o ho x e)
    rw [show 3 = 1 + 2 from rfl, o.set_tail (h.recs b o ho).2] at hb
    exact hb
  have HC := Lib.hid C
  have HS' := Lib.hid HS
  clear C HS h hg
  show Calls Try.prog 75 #[.pointer (some ⟨b, 0, none⟩), gvI g] w _
  go_enter Try.func75, Try.ntmps75
  go_wp2_with fail
  refine HC.out.mono ?_
  rintro e w1 ⟨rfl, H, hb⟩
  have H2 := Lib.hid (HS'.out w1 H hb)
  have H1 := Lib.hid H
  clear H HC HS' hb
  go_wp2
  go_end0
  exact ⟨rfl, H1.out, H2.out⟩

set_option maxHeartbeats 400000 in
theorem commit_int (B : Nat) (g : Option Nat) (ks : List Int) (R : Nat → Option RecO) (X : Nat → Option ScxO) (w : World) (h : Repint w R X) (hg : GAtI w B g ks) (hbB : B ≤ w.heap.size) (hl : ks.length ≤ 1000000000) (b : Nat) (o : ScxO) (ho : X b = some o) :
    Calls Try.prog 77 #[pv (some b), gvI g] w fun e w' => e = .returned (.tuple #[]) ∧ StepI B g w w' (ks ++ [2]) (fun k => k = b) ∧ Repint w' R (upd X b { o with state := 1 }) := by
  have C := num_store B g ks b 7 152 _ w hg hbB hl (h.scx b o ho) (by decide) (by decide) 1 (by decide) (by decide) (.int .i64 o.state) rfl
  have HS : ∀ w', StepI B g w w' (ks ++ [2]) (fun k => k = b) → Blk w' b 152 (o.cells.set 7 (.int .i64 1)) → Repint w' R (upd X b { o with state := 1 }) := fun w' hs hb => by
    exact h.setScx tys_int hg ho hs hb
  have HC := Lib.hid C
  have HS' := Lib.hid HS
  clear C HS h hg
  show Calls Try.prog 77 #[.pointer (some ⟨b, 0, none⟩), gvI g] w _
  go_enter Try.func77, Try.ntmps77
  go_wp2_with fail
  refine HC.out.mono ?_
  rintro e w1 ⟨rfl, H, hb⟩
  have H2 := Lib.hid (HS'.out w1 H hb)
  have H1 := Lib.hid H
  clear H HC HS' hb
  go_wp2
  go_end0
  exact ⟨rfl, H1.out, H2.out⟩

set_option maxHeartbeats 400000 in
theorem abort_int (B : Nat) (g : Option Nat) (ks : List Int) (R : Nat → Option RecO) (X : Nat → Option ScxO) (w : World) (h : Repint w R X) (hg : GAtI w B g ks) (hbB : B ≤ w.heap.size) (hl : ks.length ≤ 1000000000) (b : Nat) (o : ScxO) (ho : X b = some o) :
    Calls Try.prog 73 #[pv (some b), gvI g] w fun e w' => e = .returned (.tuple #[]) ∧ StepI B g w w' (ks ++ [2]) (fun k => k = b) ∧ Repint w' R (upd X b { o with state := 2 }) := by
  have C := num_store B g ks b 7 152 _ w hg hbB hl (h.scx b o ho) (by decide) (by decide) 2 (by decide) (by decide) (.int .i64 o.state) rfl
  have HS : ∀ w', StepI B g w w' (ks ++ [2]) (fun k => k = b) → Blk w' b 152 (o.cells.set 7 (.int .i64 2)) → Repint w' R (upd X b { o with state := 2 }) := fun w' hs hb => by
    exact h.setScx tys_int hg ho hs hb
  have HC := Lib.hid C
  have HS' := Lib.hid HS
  clear C HS h hg
  show Calls Try.prog 73 #[.pointer (some ⟨b, 0, none⟩), gvI g] w _
  go_enter Try.func73, Try.ntmps73
  go_wp2_with fail
  refine HC.out.mono ?_
  rintro e w1 ⟨rfl, H, hb⟩
  have H2 := Lib.hid (HS'.out w1 H hb)
  have H1 := Lib.hid H
  clear H HC HS' hb
  go_wp2
  go_end0
  exact ⟨rfl, H1.out, H2.out⟩

set_option maxHeartbeats 400000 in
theorem setallfrozen_int (B : Nat) (g : Option Nat) (ks : List Int) (R : Nat → Option RecO) (X : Nat → Option ScxO) (w : World) (h : Repint w R X) (hg : GAtI w B g ks) (hbB : B ≤ w.heap.size) (hl : ks.length ≤ 1000000000) (b : Nat) (o : ScxO) (ho : X b = some o) :
    Calls Try.prog 74 #[pv (some b), gvI g] w fun e w' => e = .returned (.tuple #[]) ∧ StepI B g w w' (ks ++ [2]) (fun k => k = b) ∧ Repint w' R (upd X b { o with frozen := true }) := by
  have C := mark_store_true B g ks b 8 152 _ w hg hbB hl (h.scx b o ho) (by decide) (by decide) (u32b o.frozen) rfl
  have HS : ∀ w', StepI B g w w' (ks ++ [2]) (fun k => k = b) → Blk w' b 152 (o.cells.set 8 (.int .u32 1)) → Repint w' R (upd X b { o with frozen := true }) := fun w' hs hb => by
    exact h.setScx tys_int hg ho hs hb
  have HC := Lib.hid C
  have HS' := Lib.hid HS
  clear C HS h hg
  show Calls Try.prog 74 #[.pointer (some ⟨b, 0, none⟩), gvI g] w _
  go_enter Try.func74, Try.ntmps74
  go_wp2_with fail
  refine HC.out.mono ?_
  rintro e w1 ⟨rfl, H, hb⟩
  have H2 := Lib.hid (HS'.out w1 H hb)
  have H1 := Lib.hid H
  clear H HC HS' hb
  go_wp2
  go_end0
  exact ⟨rfl, H1.out, H2.out⟩

set_option maxHeartbeats 400000 in
theorem state_int (B : Nat) (g : Option Nat) (ks : List Int) (R : Nat → Option RecO) (X : Nat → Option ScxO) (w : World) (h : Repint w R X) (hg : GAtI w B g ks) (hbB : B ≤ w.heap.size) (hl : ks.length ≤ 1000000000) (b : Nat) (o : ScxO) (ho : X b = some o) (n0 : 0 ≤ o.state) (n1 : o.state ≤ 1000) :
    Calls Try.prog 99 #[pv (some b), gvI g] w fun e w' => e = .returned (.int .i64 o.state) ∧ StepI B g w w' (ks ++ [1]) (fun _ => False) ∧ Repint w' R X := by
  have C := num_load B g ks b 7 152 _ w hg hbB hl (h.scx b o ho) (by decide) (by decide) o.state n0 n1 rfl
  have HS := fun w' hs => h.step tys_int hg (w' := w') (ks' := ks ++ [1]) hs
  clear h hg
  show Calls Try.prog 99 #[.pointer (some ⟨b, 0, none⟩), gvI g] w _
  have HC := Lib.hid C
  have HS' := Lib.hid HS
  clear C HS
  go_enter Try.func99, Try.ntmps99
  go_wp2_with fail
  refine HC.out.mono ?_
  rintro e w1 ⟨rfl, H⟩
  have H2 := Lib.hid (HS'.out w1 H)
  have H1 := Lib.hid H
  clear H HC HS'
  go_wp2
  go_ret
  exact ⟨rfl, H1.out, H2.out⟩

set_option maxHeartbeats 400000 in
theorem getn_int (R : Nat → Option RecO) (X : Nat → Option ScxO) (w : World) (h : Repint w R X)  (b : Nat) (o : RecO) (ho : R b = some o) (i : Int) (i0 : 0 ≤ i) (i1 : i < o.fields.length) :
    Calls Try.prog 94 #[pv (some b), .nilIface, .int .i64 i] w fun e w' => e = .returned (pv (o.fields.getD i.toNat none)) ∧ w = w' := by
  have hc : w.cell? ⟨b, 1, none⟩ = some (.slice (some ⟨o.fb, 0, none⟩) o.fields.length o.fields.length) := h.cell ho 0
  have hlt : i.toNat < o.fields.length := by omega
  have hx0 : o.fields[i.toNat]? = some (o.fields.getD i.toNat none) := by simp [List.getD_eq_getElem?_getD, List.getElem?_eq_getElem hlt]
  have hx : (o.fields.map pv)[i.toNat]? = some (pv (o.fields.getD i.toNat none)) := by rw [List.getElem?_map, hx0]; rfl
  have C := cell_loadn_Recordint o.fb i.toNat 170 _ w (h.fld b o ho) _ hx (h.recPtr (h.okField ho hx0))
  generalize o.fields.getD i.toNat none = p at *
  have HC := Lib.hid C
  clear C h hx hx0
  show Calls Try.prog 94 #[.pointer (some ⟨b, 0, none⟩), .nilIface, .int .i64 i] w _
  go_enter Try.func94, Try.ntmps94
  go_wp2_with fail
  refine HC.out.mono ?_
  rintro e w1 ⟨rfl, rfl⟩
  clear HC
  go_wp2
  go_ret
  exact ⟨rfl, rfl⟩

set_option maxHeartbeats 400000 in
theorem infon_int (R : Nat → Option RecO) (X : Nat → Option ScxO) (w : World) (h : Repint w R X)  (b : Nat) (o : RecO) (ho : R b = some o) :
    Calls Try.prog 71 #[pv (some b), .nilIface] w fun e w' => e = .returned (pv o.info) ∧ w = w' := by
  have C := cell_loadn_Scxint b 2 178 _ w (h.recs b o ho).1 o.info (h.at_ ho 1) (h.scxPtr (h.okInfo ho))
  have HC := Lib.hid C
  clear C h
  show Calls Try.prog 71 #[.pointer (some ⟨b, 0, none⟩), .nilIface] w _
  go_enter Try.func71, Try.ntmps71
  go_wp2_with fail
  refine HC.out.mono ?_
  rintro e w1 ⟨rfl, rfl⟩
  clear HC
  go_wp2
  go_ret
  exact ⟨rfl, rfl⟩

set_option maxHeartbeats 400000 in
theorem staten_int (R : Nat → Option RecO) (X : Nat → Option ScxO) (w : World) (h : Repint w R X)  (b : Nat) (o : ScxO) (ho : X b = some o) (n0 : 0 ≤ o.state) (n1 : o.state ≤ 1000) :
    Calls Try.prog 99 #[pv (some b), .nilIface] w fun e w' => e = .returned (.int .i64 o.state) ∧ w = w' := by
  have C := num_loadn b 7 152 _ w (h.scx b o ho) o.state n0 n1 rfl
  have HC := Lib.hid C
  clear C h
  show Calls Try.prog 99 #[.pointer (some ⟨b, 0, none⟩), .nilIface] w _
  go_enter Try.func99, Try.ntmps99
  go_wp2_with fail
  refine HC.out.mono ?_
  rintro e w1 ⟨rfl, rfl⟩
  clear HC
  go_wp2
  go_ret
  exact ⟨rfl, rfl⟩

set_option maxHeartbeats 400000 in
theorem markedn_false_int (R : Nat → Option RecO) (X : Nat → Option ScxO) (w : World) (h : Repint w R X)  (b : Nat) (o : RecO) (ho : R b = some o) (hm : o.mark = false) :
    Calls Try.prog 97 #[pv (some b), .nilIface] w fun e w' => e = .returned (.bool false) ∧ w = w' := by
  have C := mark_loadn_false b 3 178 _ w (h.recs b o ho).1 (by rw [show 3 = 1 + 2 from rfl, h.at_ ho 2]; simp [RecO.tail, u32b, hm])
  have HC := Lib.hid C
  clear C h hm
  show Calls Try.prog 97 #[.pointer (some ⟨b, 0, none⟩), .nilIface] w _
  go_enter Try.func97, Try.ntmps97
  go_wp2_with fail
  refine HC.out.mono ?_
  rintro e w1 ⟨rfl, rfl⟩
  clear HC
  go_wp2
  go_ret
  exact ⟨rfl, rfl⟩

set_option maxHeartbeats 400000 in
theorem allfrozenn_false_int (R : Nat → Option RecO) (X : Nat → Option ScxO) (w : World) (h : Repint w R X)  (b : Nat) (o : ScxO) (ho : X b = some o) (hm : o.frozen = false) :
    Calls Try.prog 72 #[pv (some b), .nilIface] w fun e w' => e = .returned (.bool false) ∧ w = w' := by
  have C := mark_loadn_false b 8 152 _ w (h.scx b o ho) (by simp [ScxO.cells, u32b, hm])
  have HC := Lib.hid C
  clear C h hm
  show Calls Try.prog 72 #[.pointer (some ⟨b, 0, none⟩), .nilIface] w _
  go_enter Try.func72, Try.ntmps72
  go_wp2_with fail
  refine HC.out.mono ?_
  rintro e w1 ⟨rfl, rfl⟩
  clear HC
  go_wp2
  go_ret
  exact ⟨rfl, rfl⟩

set_option maxHeartbeats 400000 in
theorem markedn_true_int (R : Nat → Option RecO) (X : Nat → Option ScxO) (w : World) (h : Repint w R X)  (b : Nat) (o : RecO) (ho : R b = some o) (hm : o.mark = true) :
    Calls Try.prog 97 #[pv (some b), .nilIface] w fun e w' => e = .returned (.bool true) ∧ w = w' := by
  have C := mark_loadn_true b 3 178 _ w (h.recs b o ho).1 (by rw [show 3 = 1 + 2 from rfl, h.at_ ho 2]; simp [RecO.tail, u32b, hm])
  have HC := Lib.hid C
  clear C h hm
  show Calls Try.prog 97 #[.pointer (some ⟨b, 0, none⟩), .nilIface] w _
  go_enter Try.func97, Try.ntmps97
  go_wp2_with fail
  refine HC.out.mono ?_
  rintro e w1 ⟨rfl, rfl⟩
  clear HC
  go_wp2
  go_ret
  exact ⟨rfl, rfl⟩

set_option maxHeartbeats 400000 in
theorem allfrozenn_true_int (R : Nat → Option RecO) (X : Nat → Option ScxO) (w : World) (h : Repint w R X)  (b : Nat) (o : ScxO) (ho : X b = some o) (hm : o.frozen = true) :
    Calls Try.prog 72 #[pv (some b), .nilIface] w fun e w' => e = .returned (.bool true) ∧ w = w' := by
  have C := mark_loadn_true b 8 152 _ w (h.scx b o ho) (by simp [ScxO.cells, u32b, hm])
  have HC := Lib.hid C
  clear C h hm
  show Calls Try.prog 72 #[.pointer (some ⟨b, 0, none⟩), .nilIface] w _
  go_enter Try.func72, Try.ntmps72
  go_wp2_with fail
  refine HC.out.mono ?_
  rintro e w1 ⟨rfl, rfl⟩
  clear HC
  go_wp2
  go_ret
  exact ⟨rfl, rfl⟩

abbrev RepL12thing := Rep 124 2 191 141
theorem tys_L12thing : Tys 124 191 141 TT ti := ⟨by decide, by decide, by decide, by decide, by decide, by decide, by decide, by decide, by decide⟩

set_option maxHeartbeats 400000 in
theorem len_L12thing (R : Nat → Option RecO) (X : Nat → Option ScxO) (w : World) (h : RepL12thing w R X) (b : Nat) (o : RecO) (ho : R b = some o) :
    Calls Try.prog 49 #[pv (some b)] w fun e w' => e = .returned (.int .i64 o.fields.length) ∧ w = w' := by
  have hc : w.cell? ⟨b, 2, none⟩ = some (.slice (some ⟨o.fb, 0, none⟩) o.fields.length o.fields.length) := h.cell ho 0
  show Calls Try.prog 49 #[.pointer (some ⟨b, 0, none⟩)] w _
  go_enter Try.func49, Try.ntmps49
  go_wp2
  go_ret
  exact ⟨rfl, rfl⟩

set_option maxHeartbeats 400000 in
theorem get_L12thing (B : Nat) (g : Option Nat) (ks : List Int) (R : Nat → Option RecO) (X : Nat → Option ScxO) (w : World) (h : RepL12thing w R X) (hg : GAtI w B g ks) (hbB : B ≤ w.heap.size) (hl : ks.length ≤ 1000000000) (b : Nat) (o : RecO) (ho : R b = some o) (i : Int) (i0 : 0 ≤ i) (i1 : i < o.fields.length) :
    Calls Try.prog 50 #[pv (some b), gvI g, .int .i64 i] w fun e w' => e = .returned (pv (o.fields.getD i.toNat none)) ∧ StepI B g w w' (ks ++ [1]) (fun _ => False) ∧ RepL12thing w' R X := by
  have hc : w.cell? ⟨b, 2, none⟩ = some (.slice (some ⟨o.fb, 0, none⟩) o.fields.length o.fields.length) := h.cell ho 0
  have hlt : i.toNat < o.fields.length := by omega
  have hx0 : o.fields[i.toNat]? = some (o.fields.getD i.toNat none) := by simp [List.getD_eq_getElem?_getD, List.getElem?_eq_getElem hlt]
  have hx : (o.fields.map pv)[i.toNat]? = some (pv (o.fields.getD i.toNat none)) := by rw [List.getElem?_map, hx0]; rfl
  have C := cell_load_RecordL12thing B g ks o.fb i.toNat 191 _ w hg hbB hl (h.fld b o ho) (by decide) (by decide) _ hx (h.recPtr (h.okField ho hx0))
  have HS := fun w' hs => h.step tys_L12thing hg (w' := w') (ks' := ks ++ [1]) hs
  generalize o.fields.getD i.toNat none = p at *
  clear hx hx0 h hg
  show Calls Try.prog 50 #[.pointer (some ⟨b, 0, none⟩), gvI g, .int .i64 i] w _
  have HC := Lib.hid C
  have HS' := Lib.hid HS
  clear C HS
  go_enter Try.func50, Try.ntmps50
  go_wp2_with fail
  refine HC.out.mono ?_
  rintro e w1 ⟨rfl, H⟩
  have H2 := Lib.hid (HS'.out w1 H)
  have H1 := Lib.hid H
  clear H HC HS'
  go_wp2
  go_ret
  exact ⟨rfl, H1.out, H2.out⟩

set_option maxHeartbeats 400000 in
theorem swing_L12thing (B : Nat) (g : Option Nat) (ks : List Int) (R : Nat → Option RecO) (X : Nat → Option ScxO) (w : World) (h : RepL12thing w R X) (hg : GAtI w B g ks) (hbB : B ≤ w.heap.size) (hl : ks.length ≤ 1000000000) (b : Nat) (o : RecO) (ho : R b = some o) (i : Int) (i0 : 0 ≤ i) (i1 : i < o.fields.length) (x y : Option Nat) (hx : Ok R x) (hy : Ok R y) :
    Calls Try.prog 55 #[pv (some b), gvI g, .int .i64 i, pv x, pv y] w fun e w' => e = .returned (.bool (decide (o.fields.getD i.toNat none = x))) ∧ StepI B g w w' (ks ++ [5]) (fun k => k = o.fb) ∧
      RepL12thing w' (upd R b { o with fields := if o.fields.getD i.toNat none = x then o.fields.set i.toNat y else o.fields }) X := by
  have hc : w.cell? ⟨b, 2, none⟩ = some (.slice (some ⟨o.fb, 0, none⟩) o.fields.length o.fields.length) := h.cell ho 0
  have hlt : i.toNat < o.fields.length := by omega
  have hx0 : o.fields[i.toNat]? = some (o.fields.getD i.toNat none) := by simp [List.getD_eq_getElem?_getD, List.getElem?_eq_getElem hlt]
  have hx1 : (o.fields.map pv)[i.toNat]? = some (pv (o.fields.getD i.toNat none)) := by rw [List.getElem?_map, hx0]; rfl
  have C := cell_cas_RecordL12thing B g ks o.fb i.toNat 191 _ w hg hbB hl (h.fld b o ho) (by decide) (by decide) _ x y hx1 (h.recPtr (h.okField ho hx0)) (h.recPtr hx) (h.recPtr hy)
  have HS : ∀ w', StepI B g w w' (ks ++ [5]) (fun k => k = o.fb) → Blk w' o.fb 191 (if o.fields.getD i.toNat none = x then (o.fields.map pv).set i.toNat (pv y) else o.fields.map pv) →
      RepL12thing w' (upd R b { o with fields := if o.fields.getD i.toNat none = x then o.fields.set i.toNat y else o.fields }) X := fun w' hs hb => by
    refine h.setFields tys_L12thing hg ho hs ?_ ?_ ?_
    · split <;> simp
    · split at hb
      · rw [if_pos ‹_›, List.map_set]; exact hb
      · rw [if_neg ‹_›]; exact hb
    · intro z hz
      split at hz
      · rcases List.mem_or_eq_of_mem_set hz with hz | hz
        · exact h.kf b o ho z hz
        · exact hy z hz.symm
      · exact h.kf b o ho z hz
  generalize o.fields.getD i.toNat none = p at *
  clear hx hx0 hx1 hy h hg
  show Calls Try.prog 55 #[.pointer (some ⟨b, 0, none⟩), gvI g, .int .i64 i, pv x, pv y] w _
  refine calls_hide fun Q HQ => ?_
  have HQ' := Lib.hid HQ
  clear HQ
  have HC := Lib.hid C
  have HS' := Lib.hid HS
  clear C HS
  go_enter Try.func55, Try.ntmps55
  go_wp2_with fail
  refine HC.out.mono ?_
  rintro e w1 ⟨rfl, H, hb⟩
  have H2 := Lib.hid (HS'.out w1 H hb)
  have H1 := Lib.hid H
  clear H HC HS' hb
  go_wp2
  exact HQ'.out _ _ ⟨rfl, H1.out, H2.out⟩

set_option maxHeartbeats 400000 in
theorem info_L12thing (B : Nat) (g : Option Nat) (ks : List Int) (R : Nat → Option RecO) (X : Nat → Option ScxO) (w : World) (h : RepL12thing w R X) (hg : GAtI w B g ks) (hbB : B ≤ w.heap.size) (hl : ks.length ≤ 1000000000) (b : Nat) (o : RecO) (ho : R b = some o) :
    Calls Try.prog 52 #[pv (some b), gvI g] w fun e w' => e = .returned (pv o.info) ∧ StepI B g w w' (ks ++ [1]) (fun _ => False) ∧ RepL12thing w' R X := by
  have C := cell_load_ScxL12thing B g ks b 3 124 _ w hg hbB hl (h.recs b o ho).1 (by decide) (by decide) o.info (h.at_ ho 1) (h.scxPtr (h.okInfo ho))
  have HS := fun w' hs => h.step tys_L12thing hg (w' := w') (ks' := ks ++ [1]) hs
  clear h hg
  show Calls Try.prog 52 #[.pointer (some ⟨b, 0, none⟩), gvI g] w _
  have HC := Lib.hid C
  have HS' := Lib.hid HS
  clear C HS
  go_enter Try.func52, Try.ntmps52
  go_wp2_with fail
  refine HC.out.mono ?_
  rintro e w1 ⟨rfl, H⟩
  have H2 := Lib.hid (HS'.out w1 H)
  have H1 := Lib.hid H
  clear H HC HS'
  go_wp2
  go_ret
  exact ⟨rfl, H1.out, H2.out⟩

set_option maxHeartbeats 400000 in
theorem freeze_L12thing (B : Nat) (g : Option Nat) (ks : List Int) (R : Nat → Option RecO) (X : Nat → Option ScxO) (w : World) (h : RepL12thing w R X) (hg : GAtI w B g ks) (hbB : B ≤ w.heap.size) (hl : ks.length ≤ 1000000000) (b : Nat) (o : RecO) (ho : R b = some o) (x y : Option Nat) (hx : Ok X x) (hy : Ok X y) :
    Calls Try.prog 57 #[pv (some b), gvI g, pv x, pv y] w fun e w' => e = .returned (.bool (decide (o.info = x))) ∧ StepI B g w w' (ks ++ [5]) (fun k => k = b) ∧
      RepL12thing w' (upd R b { o with info := if o.info = x then y else o.info }) X := by
  have C := cell_cas_ScxL12thing B g ks b 3 124 _ w hg hbB hl (h.recs b o ho).1 (by decide) (by decide) o.info x y (h.at_ ho 1) (h.scxPtr (h.okInfo ho)) (h.scxPtr hx) (h.scxPtr hy)
  have HS : ∀ w', StepI B g w w' (ks ++ [5]) (fun k => k = b) → Blk w' b 124 (if o.info = x then o.cells.set 3 (pv y) else o.cells) →
      RepL12thing w' (upd R b { o with info := if o.info = x then y else o.info }) X := fun w' hs hb => by
    refine h.setRec tys_L12thing hg ho hs rfl rfl rfl ?_ ?_
    · split at hb
      · rw [if_pos ‹_›]
        rw [show 3 = 2 + 1 from rfl, o.set_tail (h.recs b o ho).2] at hb
        exact hb
      · rw [if_neg ‹_›]; exact hb
    · show Ok X (if o.info = x then y else o.info)
      split
      · exact hy
      · exact h.okInfo ho
  clear hx hy h hg
  show Calls Try.prog 57 #[.pointer (some ⟨b, 0, none⟩), gvI g, pv x, pv y] w _
  refine calls_hide fun Q HQ => ?_
  have HQ' := Lib.hid HQ
  clear HQ
  have HC := Lib.hid C
  have HS' := Lib.hid HS
  clear C HS
  go_enter Try.func57, Try.ntmps57
  go_wp2_with fail
  refine HC.out.mono ?_
  rintro e w1 ⟨rfl, H, hb⟩
  have H2 := Lib.hid (HS'.out w1 H hb)
  have H1 := Lib.hid H
  clear H HC HS' hb
  go_wp2
  exact HQ'.out _ _ ⟨rfl, H1.out, H2.out⟩

set_option maxHeartbeats 400000 in
theorem marked_L12thing (B : Nat) (g : Option Nat) (ks : List Int) (R : Nat → Option RecO) (X : Nat → Option ScxO) (w : World) (h : RepL12thing w R X) (hg : GAtI w B g ks) (hbB : B ≤ w.heap.size) (hl : ks.length ≤ 1000000000) (b : Nat) (o : RecO) (ho : R b = some o) :
    Calls Try.prog 51 #[pv (some b), gvI g] w fun e w' => e = .returned (.bool o.mark) ∧ StepI B g w w' (ks ++ [1]) (fun _ => False) ∧ RepL12thing w' R X := by
  have HS := fun w' hs => h.step tys_L12thing hg (w' := w') (ks' := ks ++ [1]) hs
  have HS' := Lib.hid HS
  clear HS
  cases hm : o.mark with
  | false =>
    have C := mark_load_false B g ks b 4 124 _ w hg hbB hl (h.recs b o ho).1 (by decide) (by decide) (by rw [show 4 = 2 + 2 from rfl, h.at_ ho 2]; simp [RecO.tail, ScxO.cells, u32b, hm])
    have HC := Lib.hid C
    clear C h hg hm
    show Calls Try.prog 51 #[.pointer (some ⟨b, 0, none⟩), gvI g] w _
    go_enter Try.func51, Try.ntmps51
    go_wp2_with fail
    refine HC.out.mono ?_
    rintro e w1 ⟨rfl, H⟩
    have H2 := Lib.hid (HS'.out w1 H)
    have H1 := Lib.hid H
    clear H HC HS'
    go_wp2
    go_ret
    exact ⟨rfl, H1.out, H2.out⟩
  | true =>
    have C := mark_load_true B g ks b 4 124 _ w hg hbB hl (h.recs b o ho).1 (by decide) (by decide) (by rw [show 4 = 2 + 2 from rfl, h.at_ ho 2]; simp [RecO.tail, ScxO.cells, u32b, hm])
    have HC := Lib.hid C
    clear C h hg hm
    show Calls Try.prog 51 #[.pointer (some ⟨b, 0, none⟩), gvI g] w _
    go_enter Try.func51, Try.ntmps51
    go_wp2_with fail
    refine HC.out.mono ?_
    rintro e w1 ⟨rfl, H⟩
    have H2 := Lib.hid (HS'.out w1 H)
    have H1 := Lib.hid H
    clear H HC HS'
    go_wp2
    go_ret
    exact ⟨rfl, H1.out, H2.out⟩

set_option maxHeartbeats 400000 in
theorem allfrozen_L12thing (B : Nat) (g : Option Nat) (ks : List Int) (R : Nat → Option RecO) (X : Nat → Option ScxO) (w : World) (h : RepL12thing w R X) (hg : GAtI w B g ks) (hbB : B ≤ w.heap.size) (hl : ks.length ≤ 1000000000) (b : Nat) (o : ScxO) (ho : X b = some o) :
    Calls Try.prog 54 #[pv (some b), gvI g] w fun e w' => e = .returned (.bool o.frozen) ∧ StepI B g w w' (ks ++ [1]) (fun _ => False) ∧ RepL12thing w' R X := by
  have HS := fun w' hs => h.step tys_L12thing hg (w' := w') (ks' := ks ++ [1]) hs
  have HS' := Lib.hid HS
  clear HS
  cases hm : o.frozen with
  | false =>
    have C := mark_load_false B g ks b 8 141 _ w hg hbB hl (h.scx b o ho) (by decide) (by decide) (by simp [RecO.tail, ScxO.cells, u32b, hm])
    have HC := Lib.hid C
    clear C h hg hm
    show Calls Try.prog 54 #[.pointer (some ⟨b, 0, none⟩), gvI g] w _
    go_enter Try.func54, Try.ntmps54
    go_wp2_with fail
    refine HC.out.mono ?_
    rintro e w1 ⟨rfl, H⟩
    have H2 := Lib.hid (HS'.out w1 H)
    have H1 := Lib.hid H
    clear H HC HS'
    go_wp2
    go_ret
    exact ⟨rfl, H1.out, H2.out⟩
  | true =>
    have C := mark_load_true B g ks b 8 141 _ w hg hbB hl (h.scx b o ho) (by decide) (by decide) (by simp [RecO.tail, ScxO.cells, u32b, hm])
    have HC := Lib.hid C
    clear C h hg hm
    show Calls Try.prog 54 #[.pointer (some ⟨b, 0, none⟩), gvI g] w _
    go_enter Try.func54, Try.ntmps54
    go_wp2_with fail
    refine HC.out.mono ?_
    rintro e w1 ⟨rfl, H⟩
    have H2 := Lib.hid (HS'.out w1 H)
    have H1 := Lib.hid H
    clear H HC HS'
    go_wp2
    go_ret
    exact ⟨rfl, H1.out, H2.out⟩

set_option maxHeartbeats 400000 in
theorem mark_L12thing (B : Nat) (g : Option Nat) (ks : List Int) (R : Nat → Option RecO) (X : Nat → Option ScxO) (w : World) (h : RepL12thing w R X) (hg : GAtI w B g ks) (hbB : B ≤ w.heap.size) (hl : ks.length ≤ 1000000000) (b : Nat) (o : RecO) (ho : R b = some o) :
    Calls Try.prog 58 #[pv (some b), gvI g] w fun e w' => e = .returned (.tuple #[]) ∧ StepI B g w w' (ks ++ [2]) (fun k => k = b) ∧ RepL12thing w' (upd R b { o with mark := true }) X := by
  have C := mark_store_true B g ks b 4 124 _ w hg hbB hl (h.recs b o ho).1 (by decide) (by decide) _ (h.at_ ho 2)
  have HS : ∀ w', StepI B g w w' (ks ++ [2]) (fun k => k = b) → Blk w' b 124 (o.cells.set 4 (.int .u32 1)) → RepL12thing w' (upd R b { o with mark := true }) X := fun w' hs hb => by
    refine h.setRec tys_L12thing hg ho hs rfl rfl rfl ?_ (fun x e => h.ki b o ho x e)
    rw [show 4 = 2 + 2 from rfl, o.set_tail (h.recs b o ho).2] at hb
    exact hb
  have HC := Lib.hid C
  have HS' := Lib.hid HS
  clear C HS h hg
  show Calls Try.prog 58 #[.pointer (some ⟨b, 0, none⟩), gvI g] w _
  go_enter Try.func58, Try.ntmps58
  go_wp2_with fail
  refine HC.out.mono ?_
  rintro e w1 ⟨rfl, H, hb⟩
  have H2 := Lib.hid (HS'.out w1 H hb)
  have H1 := Lib.hid H
  clear H HC HS' hb
  go_wp2
  go_end0
  exact ⟨rfl, H1.out, H2.out⟩

set_option maxHeartbeats 400000 in
theorem commit_L12thing (B : Nat) (g : Option Nat) (ks : List Int) (R : Nat → Option RecO) (X : Nat → Option ScxO) (w : World) (h : RepL12thing w R X) (hg : GAtI w B g ks) (hbB : B ≤ w.heap.size) (hl : ks.length ≤ 1000000000) (b : Nat) (o : ScxO) (ho : X b = some o) :
    Calls Try.prog 60 #[pv (some b), gvI g] w fun e w' => e = .returned (.tuple #[]) ∧ StepI B g w w' (ks ++ [2]) (fun k => k = b) ∧ RepL12thing w' R (upd X b { o with state := 1 }) := by
  have C := num_store B g ks b 7 141 _ w hg hbB hl (h.scx b o ho) (by decide) (by decide) 1 (by decide) (by decide) (.int .i64 o.state) rfl
  have HS : ∀ w', StepI B g w w' (ks ++ [2]) (fun k => k = b) → Blk w' b 141 (o.cells.set 7 (.int .i64 1)) → RepL12thing w' R (upd X b { o with state := 1 }) := fun w' hs hb => by
    exact h.setScx tys_L12thing hg ho hs hb
  have HC := Lib.hid C
  have HS' := Lib.hid HS
  clear C HS h hg
  show Calls Try.prog 60 #[.pointer (some ⟨b, 0, none⟩), gvI g] w _
  go_enter Try.func60, Try.ntmps60
  go_wp2_with fail
  refine HC.out.mono ?_
  rintro e w1 ⟨rfl, H, hb⟩
  have H2 := Lib.hid (HS'.out w1 H hb)
  have H1 := Lib.hid H
  clear H HC HS' hb
  go_wp2
  go_end0
  exact ⟨rfl, H1.out, H2.out⟩

set_option maxHeartbeats 400000 in
theorem abort_L12thing (B : Nat) (g : Option Nat) (ks : List Int) (R : Nat → Option RecO) (X : Nat → Option ScxO) (w : World) (h : RepL12thing w R X) (hg : GAtI w B g ks) (hbB : B ≤ w.heap.size) (hl : ks.length ≤ 1000000000) (b : Nat) (o : ScxO) (ho : X b = some o) :
    Calls Try.prog 59 #[pv (some b), gvI g] w fun e w' => e = .returned (.tuple #[]) ∧ StepI B g w w' (ks ++ [2]) (fun k => k = b) ∧ RepL12thing w' R (upd X b { o with state := 2 }) := by
  have C := num_store B g ks b 7 141 _ w hg hbB hl (h.scx b o ho) (by decide) (by decide) 2 (by decide) (by decide) (.int .i64 o.state) rfl
  have HS : ∀ w', StepI B g w w' (ks ++ [2]) (fun k => k = b) → Blk w' b 141 (o.cells.set 7 (.int .i64 2)) → RepL12thing w' R (upd X b { o with state := 2 }) := fun w' hs hb => by
    exact h.setScx tys_L12thing hg ho hs hb
  have HC := Lib.hid C
  have HS' := Lib.hid HS
  clear C HS h hg
  show Calls Try.prog 59 #[.pointer (some ⟨b, 0, none⟩), gvI g] w _
  go_enter Try.func59, Try.ntmps59
  go_wp2_with fail
  refine HC.out.mono ?_
  rintro e w1 ⟨rfl, H, hb⟩
  have H2 := Lib.hid (HS'.out w1 H hb)
  have H1 := Lib.hid H
  clear H HC HS' hb
  go_wp2
  go_end0
  exact ⟨rfl, H1.out, H2.out⟩

set_option maxHeartbeats 400000 in
theorem setallfrozen_L12thing (B : Nat) (g : Option Nat) (ks : List Int) (R : Nat → Option RecO) (X : Nat → Option ScxO) (w : World) (h : RepL12thing w R X) (hg : GAtI w B g ks) (hbB : B ≤ w.heap.size) (hl : ks.length ≤ 1000000000) (b : Nat) (o : ScxO) (ho : X b = some o) :
    Calls Try.prog 61 #[pv (some b), gvI g] w fun e w' => e = .returned (.tuple #[]) ∧ StepI B g w w' (ks ++ [2]) (fun k => k = b) ∧ RepL12thing w' R (upd X b { o with frozen := true }) := by
  have C := mark_store_true B g ks b 8 141 _ w hg hbB hl (h.scx b o ho) (by decide) (by decide) (u32b o.frozen) rfl
  have HS : ∀ w', StepI B g w w' (ks ++ [2]) (fun k => k = b) → Blk w' b 141 (o.cells.set 8 (.int .u32 1)) → RepL12thing w' R (upd X b { o with frozen := true }) := fun w' hs hb => by
    exact h.setScx tys_L12thing hg ho hs hb
  have HC := Lib.hid C
  have HS' := Lib.hid HS
  clear C HS h hg
  show Calls Try.prog 61 #[.pointer (some ⟨b, 0, none⟩), gvI g] w _
  go_enter Try.func61, Try.ntmps61
  go_wp2_with fail
  refine HC.out.mono ?_
  rintro e w1 ⟨rfl, H, hb⟩
  have H2 := Lib.hid (HS'.out w1 H hb)
  have H1 := Lib.hid H
  clear H HC HS' hb
  go_wp2
  go_end0
  exact ⟨rfl, H1.out, H2.out⟩

set_option maxHeartbeats 400000 in
theorem state_L12thing (B : Nat) (g : Option Nat) (ks : List Int) (R : Nat → Option RecO) (X : Nat → Option ScxO) (w : World) (h : RepL12thing w R X) (hg : GAtI w B g ks) (hbB : B ≤ w.heap.size) (hl : ks.length ≤ 1000000000) (b : Nat) (o : ScxO) (ho : X b = some o) (n0 : 0 ≤ o.state) (n1 : o.state ≤ 1000) :
    Calls Try.prog 53 #[pv (some b), gvI g] w fun e w' => e = .returned (.int .i64 o.state) ∧ StepI B g w w' (ks ++ [1]) (fun _ => False) ∧ RepL12thing w' R X := by
  have C := num_load B g ks b 7 141 _ w hg hbB hl (h.scx b o ho) (by decide) (by decide) o.state n0 n1 rfl
  have HS := fun w' hs => h.step tys_L12thing hg (w' := w') (ks' := ks ++ [1]) hs
  clear h hg
  show Calls Try.prog 53 #[.pointer (some ⟨b, 0, none⟩), gvI g] w _
  have HC := Lib.hid C
  have HS' := Lib.hid HS
  clear C HS
  go_enter Try.func53, Try.ntmps53
  go_wp2_with fail
  refine HC.out.mono ?_
  rintro e w1 ⟨rfl, H⟩
  have H2 := Lib.hid (HS'.out w1 H)
  have H1 := Lib.hid H
  clear H HC HS'
  go_wp2
  go_ret
  exact ⟨rfl, H1.out, H2.out⟩

set_option maxHeartbeats 400000 in
theorem getn_L12thing (R : Nat → Option RecO) (X : Nat → Option ScxO) (w : World) (h : RepL12thing w R X)  (b : Nat) (o : RecO) (ho : R b = some o) (i : Int) (i0 : 0 ≤ i) (i1 : i < o.fields.length) :
    Calls Try.prog 50 #[pv (some b), .nilIface, .int .i64 i] w fun e w' => e = .returned (pv (o.fields.getD i.toNat none)) ∧ w = w' := by
  have hc : w.cell? ⟨b, 2, none⟩ = some (.slice (some ⟨o.fb, 0, none⟩) o.fields.length o.fields.length) := h.cell ho 0
  have hlt : i.toNat < o.fields.length := by omega
  have hx0 : o.fields[i.toNat]? = some (o.fields.getD i.toNat none) := by simp [List.getD_eq_getElem?_getD, List.getElem?_eq_getElem hlt]
  have hx : (o.fields.map pv)[i.toNat]? = some (pv (o.fields.getD i.toNat none)) := by rw [List.getElem?_map, hx0]; rfl
  have C := cell_loadn_RecordL12thing o.fb i.toNat 191 _ w (h.fld b o ho) _ hx (h.recPtr (h.okField ho hx0))
  generalize o.fields.getD i.toNat none = p at *
  have HC := Lib.hid C
  clear C h hx hx0
  show Calls Try.prog 50 #[.pointer (some ⟨b, 0, none⟩), .nilIface, .int .i64 i] w _
  go_enter Try.func50, Try.ntmps50
  go_wp2_with fail
  refine HC.out.mono ?_
  rintro e w1 ⟨rfl, rfl⟩
  clear HC
  go_wp2
  go_ret
  exact ⟨rfl, rfl⟩

set_option maxHeartbeats 400000 in
theorem infon_L12thing (R : Nat → Option RecO) (X : Nat → Option ScxO) (w : World) (h : RepL12thing w R X)  (b : Nat) (o : RecO) (ho : R b = some o) :
    Calls Try.prog 52 #[pv (some b), .nilIface] w fun e w' => e = .returned (pv o.info) ∧ w = w' := by
  have C := cell_loadn_ScxL12thing b 3 124 _ w (h.recs b o ho).1 o.info (h.at_ ho 1) (h.scxPtr (h.okInfo ho))
  have HC := Lib.hid C
  clear C h
  show Calls Try.prog 52 #[.pointer (some ⟨b, 0, none⟩), .nilIface] w _
  go_enter Try.func52, Try.ntmps52
  go_wp2_with fail
  refine HC.out.mono ?_
  rintro e w1 ⟨rfl, rfl⟩
  clear HC
  go_wp2
  go_ret
  exact ⟨rfl, rfl⟩

set_option maxHeartbeats 400000 in
theorem staten_L12thing (R : Nat → Option RecO) (X : Nat → Option ScxO) (w : World) (h : RepL12thing w R X)  (b : Nat) (o : ScxO) (ho : X b = some o) (n0 : 0 ≤ o.state) (n1 : o.state ≤ 1000) :
    Calls Try.prog 53 #[pv (some b), .nilIface] w fun e w' => e = .returned (.int .i64 o.state) ∧ w = w' := by
  have C := num_loadn b 7 141 _ w (h.scx b o ho) o.state n0 n1 rfl
  have HC := Lib.hid C
  clear C h
  show Calls Try.prog 53 #[.pointer (some ⟨b, 0, none⟩), .nilIface] w _
  go_enter Try.func53, Try.ntmps53
  go_wp2_with fail
  refine HC.out.mono ?_
  rintro e w1 ⟨rfl, rfl⟩
  clear HC
  go_wp2
  go_ret
  exact ⟨rfl, rfl⟩

set_option maxHeartbeats 400000 in
theorem markedn_false_L12thing (R : Nat → Option RecO) (X : Nat → Option ScxO) (w : World) (h : RepL12thing w R X)  (b : Nat) (o : RecO) (ho : R b = some o) (hm : o.mark = false) :
    Calls Try.prog 51 #[pv (some b), .nilIface] w fun e w' => e = .returned (.bool false) ∧ w = w' := by
  have C := mark_loadn_false b 4 124 _ w (h.recs b o ho).1 (by rw [show 4 = 2 + 2 from rfl, h.at_ ho 2]; simp [RecO.tail, u32b, hm])
  have HC := Lib.hid C
  clear C h hm
  show Calls Try.prog 51 #[.pointer (some ⟨b, 0, none⟩), .nilIface] w _
  go_enter Try.func51, Try.ntmps51
  go_wp2_with fail
  refine HC.out.mono ?_
  rintro e w1 ⟨rfl, rfl⟩
  clear HC
  go_wp2
  go_ret
  exact ⟨rfl, rfl⟩

set_option maxHeartbeats 400000 in
theorem allfrozenn_false_L12thing (R : Nat → Option RecO) (X : Nat → Option ScxO) (w : World) (h : RepL12thing w R X)  (b : Nat) (o : ScxO) (ho : X b = some o) (hm : o.frozen = false) :
    Calls Try.prog 54 #[pv (some b), .nilIface] w fun e w' => e = .returned (.bool false) ∧ w = w' := by
  have C := mark_loadn_false b 8 141 _ w (h.scx b o ho) (by simp [ScxO.cells, u32b, hm])
  have HC := Lib.hid C
  clear C h hm
  show Calls Try.prog 54 #[.pointer (some ⟨b, 0, none⟩), .nilIface] w _
  go_enter Try.func54, Try.ntmps54
  go_wp2_with fail
  refine HC.out.mono ?_
  rintro e w1 ⟨rfl, rfl⟩
  clear HC
  go_wp2
  go_ret
  exact ⟨rfl, rfl⟩

set_option maxHeartbeats 400000 in
theorem markedn_true_L12thing (R : Nat → Option RecO) (X : Nat → Option ScxO) (w : World) (h : RepL12thing w R X)  (b : Nat) (o : RecO) (ho : R b = some o) (hm : o.mark = true) :
    Calls Try.prog 51 #[pv (some b), .nilIface] w fun e w' => e = .returned (.bool true) ∧ w = w' := by
  have C := mark_loadn_true b 4 124 _ w (h.recs b o ho).1 (by rw [show 4 = 2 + 2 from rfl, h.at_ ho 2]; simp [RecO.tail, u32b, hm])
  have HC := Lib.hid C
  clear C h hm
  show Calls Try.prog 51 #[.pointer (some ⟨b, 0, none⟩), .nilIface] w _
  go_enter Try.func51, Try.ntmps51
  go_wp2_with fail
  refine HC.out.mono ?_
  rintro e w1 ⟨rfl, rfl⟩
  clear HC
  go_wp2
  go_ret
  exact ⟨rfl, rfl⟩

set_option maxHeartbeats 400000 in
theorem allfrozenn_true_L12thing (R : Nat → Option RecO) (X : Nat → Option ScxO) (w : World) (h : RepL12thing w R X)  (b : Nat) (o : ScxO) (ho : X b = some o) (hm : o.frozen = true) :
    Calls Try.prog 54 #[pv (some b), .nilIface] w fun e w' => e = .returned (.bool true) ∧ w = w' := by
  have C := mark_loadn_true b 8 141 _ w (h.scx b o ho) (by simp [ScxO.cells, u32b, hm])
  have HC := Lib.hid C
  clear C h hm
  show Calls Try.prog 54 #[.pointer (some ⟨b, 0, none⟩), .nilIface] w _
  go_enter Try.func54, Try.ntmps54
  go_wp2_with fail
  refine HC.out.mono ?_
  rintro e w1 ⟨rfl, rfl⟩
  clear HC
  go_wp2
  go_ret
  exact ⟨rfl, rfl⟩
end Go.Proofs.Ytphhdmopfmelbaa

/- slices.Clone, slices.Index at the types that are met. Written by mk.py. -/
namespace Go.Proofs.Ytphhdmopfmelbaa
open Go.RowKit Go.Proofs.YtphhdmopfmelbaaW.PrintWords
set_option linter.unusedVariables false
set_option linter.unusedSimpArgs false

theorem cinfo_PRecordint : (Try.prog.info? 150).map (fun i => (i.zero, i.size, i.bytes)) = some (some (.pointer none), 1, 8) := by kernel_rfl
set_option maxHeartbeats 400000 in
theorem clone_nil_PRecordint (w : World) : Calls Try.prog 117 #[.slice none 0 0] w fun e w' => e = .returned (.slice none 0 0) ∧ w = w' := by
  have hn := fun a n c w => Lib.run_eql_slice_nil (P := Try.prog) w 82 150 a n c 0 0 Try.underlying82
  go_enter Try.func117, Try.ntmps117
  go_wp2
  go_ret
  exact ⟨rfl, rfl⟩
set_option maxHeartbeats 400000 in
theorem clone_PRecordint (ad : Addr) (n c : Nat) (us : List Value) (w : World) (hr : Row1 w (some ad) n us) (h1 : ∀ u ∈ us, u.oneCell' = true) (hl : n ≤ 1000000000000) :
    Calls Try.prog 117 #[.slice (some ad) n c] w fun e w' => ∃ v, e = .returned v ∧ w'.ownsRow w.heap.size 150 1 v n us ∧ ¬ v = .slice none 0 0 ∧ Below w.heap.size w w' := by
  have hn := fun a n c w => Lib.run_eql_slice_nil (P := Try.prog) w 82 150 a n c 0 0 Try.underlying82
  obtain ⟨i0, hi, hz0, hz1, hz2⟩ := info_parts cinfo_PRecordint
  have hlen : us.length = n * 1 := by have := hr.1; omega
  have hbase := World.ownsRow_made (base := w.heap.size) (e := 150) (size := 1) w #[] 0 (Nat.le_refl _) (by decide) rfl
  have hcells : ∀ j u, us[j]? = some u → (w.alloc (.cells #[] 150)).cell? (ad.add j) = some u := fun j u hu => by
    obtain ⟨ad', e, hc⟩ := hr.at_ hu
    cases e
    exact pw_cell_below ((Below.refl w.heap.size w).alloc (Nat.le_refl _) _) hc
  refine calls_hide fun Q HQ => ?_
  have HQ' := Lib.hid HQ
  have HL := Lib.hid hlen
  have HC := Lib.hid hcells
  have H1 := Lib.hid h1
  have HB := Lib.hid hbase
  clear HQ hlen hr hcells h1 hbase
  go_enter Try.func117, Try.ntmps117
  go_wp2_with (at_builtin; refine wpList_append_own _ rfl _ _ 82 rfl w.heap.size 150 i0 (.pointer none) 1 8 Try.underlying82 hi hz0 hz1 hz2 rfl (by decide) _ 0 [] rfl HB.out ad n c us rfl HL.out HC.out H1.out (by simp only [maxLen]; omega) (by omega) (by simp) ?_)
  intro v1 w1 hown hg hnil
  have hnn : ¬ v1 = .slice none 0 0 := hnil
  have H2 := Lib.hid (show w1.ownsRow w.heap.size 150 1 v1 n us by simpa using hown)
  have H3 := Lib.hid hnn
  have H4 := Lib.hid (((Below.refl w.heap.size w).alloc (Nat.le_refl _) _).grown hg (by simp) (fun k hk => by simp [Value.ownBlock] at hk; omega))
  clear hown hg hnil hnn HL HC H1 HB
  go_wp2
  exact HQ'.out _ _ ⟨_, rfl, H2.out, H3.out, H4.out⟩

theorem cinfo_PRecordL12thing : (Try.prog.info? 103).map (fun i => (i.zero, i.size, i.bytes)) = some (some (.pointer none), 1, 8) := by kernel_rfl
set_option maxHeartbeats 400000 in
theorem clone_nil_PRecordL12thing (w : World) : Calls Try.prog 109 #[.slice none 0 0] w fun e w' => e = .returned (.slice none 0 0) ∧ w = w' := by
  have hn := fun a n c w => Lib.run_eql_slice_nil (P := Try.prog) w 130 103 a n c 0 0 Try.underlying130
  go_enter Try.func109, Try.ntmps109
  go_wp2
  go_ret
  exact ⟨rfl, rfl⟩
set_option maxHeartbeats 400000 in
theorem clone_PRecordL12thing (ad : Addr) (n c : Nat) (us : List Value) (w : World) (hr : Row1 w (some ad) n us) (h1 : ∀ u ∈ us, u.oneCell' = true) (hl : n ≤ 1000000000000) :
    Calls Try.prog 109 #[.slice (some ad) n c] w fun e w' => ∃ v, e = .returned v ∧ w'.ownsRow w.heap.size 103 1 v n us ∧ ¬ v = .slice none 0 0 ∧ Below w.heap.size w w' := by
  have hn := fun a n c w => Lib.run_eql_slice_nil (P := Try.prog) w 130 103 a n c 0 0 Try.underlying130
  obtain ⟨i0, hi, hz0, hz1, hz2⟩ := info_parts cinfo_PRecordL12thing
  have hlen : us.length = n * 1 := by have := hr.1; omega
  have hbase := World.ownsRow_made (base := w.heap.size) (e := 103) (size := 1) w #[] 0 (Nat.le_refl _) (by decide) rfl
  have hcells : ∀ j u, us[j]? = some u → (w.alloc (.cells #[] 103)).cell? (ad.add j) = some u := fun j u hu => by
    obtain ⟨ad', e, hc⟩ := hr.at_ hu
    cases e
    exact pw_cell_below ((Below.refl w.heap.size w).alloc (Nat.le_refl _) _) hc
  refine calls_hide fun Q HQ => ?_
  have HQ' := Lib.hid HQ
  have HL := Lib.hid hlen
  have HC := Lib.hid hcells
  have H1 := Lib.hid h1
  have HB := Lib.hid hbase
  clear HQ hlen hr hcells h1 hbase
  go_enter Try.func109, Try.ntmps109
  go_wp2_with (at_builtin; refine wpList_append_own _ rfl _ _ 130 rfl w.heap.size 103 i0 (.pointer none) 1 8 Try.underlying130 hi hz0 hz1 hz2 rfl (by decide) _ 0 [] rfl HB.out ad n c us rfl HL.out HC.out H1.out (by simp only [maxLen]; omega) (by omega) (by simp) ?_)
  intro v1 w1 hown hg hnil
  have hnn : ¬ v1 = .slice none 0 0 := hnil
  have H2 := Lib.hid (show w1.ownsRow w.heap.size 103 1 v1 n us by simpa using hown)
  have H3 := Lib.hid hnn
  have H4 := Lib.hid (((Below.refl w.heap.size w).alloc (Nat.le_refl _) _).grown hg (by simp) (fun k hk => by simp [Value.ownBlock] at hk; omega))
  clear hown hg hnil hnn HL HC H1 HB
  go_wp2
  exact HQ'.out _ _ ⟨_, rfl, H2.out, H3.out, H4.out⟩

theorem cinfo_PScxint : (Try.prog.info? 81).map (fun i => (i.zero, i.size, i.bytes)) = some (some (.pointer none), 1, 8) := by kernel_rfl
set_option maxHeartbeats 400000 in
theorem clone_nil_PScxint (w : World) : Calls Try.prog 118 #[.slice none 0 0] w fun e w' => e = .returned (.slice none 0 0) ∧ w = w' := by
  have hn := fun a n c w => Lib.run_eql_slice_nil (P := Try.prog) w 83 81 a n c 0 0 Try.underlying83
  go_enter Try.func118, Try.ntmps118
  go_wp2
  go_ret
  exact ⟨rfl, rfl⟩
set_option maxHeartbeats 400000 in
theorem clone_PScxint (ad : Addr) (n c : Nat) (us : List Value) (w : World) (hr : Row1 w (some ad) n us) (h1 : ∀ u ∈ us, u.oneCell' = true) (hl : n ≤ 1000000000000) :
    Calls Try.prog 118 #[.slice (some ad) n c] w fun e w' => ∃ v, e = .returned v ∧ w'.ownsRow w.heap.size 81 1 v n us ∧ ¬ v = .slice none 0 0 ∧ Below w.heap.size w w' := by
  have hn := fun a n c w => Lib.run_eql_slice_nil (P := Try.prog) w 83 81 a n c 0 0 Try.underlying83
  obtain ⟨i0, hi, hz0, hz1, hz2⟩ := info_parts cinfo_PScxint
  have hlen : us.length = n * 1 := by have := hr.1; omega
  have hbase := World.ownsRow_made (base := w.heap.size) (e := 81) (size := 1) w #[] 0 (Nat.le_refl _) (by decide) rfl
  have hcells : ∀ j u, us[j]? = some u → (w.alloc (.cells #[] 81)).cell? (ad.add j) = some u := fun j u hu => by
    obtain ⟨ad', e, hc⟩ := hr.at_ hu
    cases e
    exact pw_cell_below ((Below.refl w.heap.size w).alloc (Nat.le_refl _) _) hc
  refine calls_hide fun Q HQ => ?_
  have HQ' := Lib.hid HQ
  have HL := Lib.hid hlen
  have HC := Lib.hid hcells
  have H1 := Lib.hid h1
  have HB := Lib.hid hbase
  clear HQ hlen hr hcells h1 hbase
  go_enter Try.func118, Try.ntmps118
  go_wp2_with (at_builtin; refine wpList_append_own _ rfl _ _ 83 rfl w.heap.size 81 i0 (.pointer none) 1 8 Try.underlying83 hi hz0 hz1 hz2 rfl (by decide) _ 0 [] rfl HB.out ad n c us rfl HL.out HC.out H1.out (by simp only [maxLen]; omega) (by omega) (by simp) ?_)
  intro v1 w1 hown hg hnil
  have hnn : ¬ v1 = .slice none 0 0 := hnil
  have H2 := Lib.hid (show w1.ownsRow w.heap.size 81 1 v1 n us by simpa using hown)
  have H3 := Lib.hid hnn
  have H4 := Lib.hid (((Below.refl w.heap.size w).alloc (Nat.le_refl _) _).grown hg (by simp) (fun k hk => by simp [Value.ownBlock] at hk; omega))
  clear hown hg hnil hnn HL HC H1 HB
  go_wp2
  exact HQ'.out _ _ ⟨_, rfl, H2.out, H3.out, H4.out⟩

theorem cinfo_PScxL12thing : (Try.prog.info? 109).map (fun i => (i.zero, i.size, i.bytes)) = some (some (.pointer none), 1, 8) := by kernel_rfl
set_option maxHeartbeats 400000 in
theorem clone_nil_PScxL12thing (w : World) : Calls Try.prog 110 #[.slice none 0 0] w fun e w' => e = .returned (.slice none 0 0) ∧ w = w' := by
  have hn := fun a n c w => Lib.run_eql_slice_nil (P := Try.prog) w 131 109 a n c 0 0 Try.underlying131
  go_enter Try.func110, Try.ntmps110
  go_wp2
  go_ret
  exact ⟨rfl, rfl⟩
set_option maxHeartbeats 400000 in
theorem clone_PScxL12thing (ad : Addr) (n c : Nat) (us : List Value) (w : World) (hr : Row1 w (some ad) n us) (h1 : ∀ u ∈ us, u.oneCell' = true) (hl : n ≤ 1000000000000) :
    Calls Try.prog 110 #[.slice (some ad) n c] w fun e w' => ∃ v, e = .returned v ∧ w'.ownsRow w.heap.size 109 1 v n us ∧ ¬ v = .slice none 0 0 ∧ Below w.heap.size w w' := by
  have hn := fun a n c w => Lib.run_eql_slice_nil (P := Try.prog) w 131 109 a n c 0 0 Try.underlying131
  obtain ⟨i0, hi, hz0, hz1, hz2⟩ := info_parts cinfo_PScxL12thing
  have hlen : us.length = n * 1 := by have := hr.1; omega
  have hbase := World.ownsRow_made (base := w.heap.size) (e := 109) (size := 1) w #[] 0 (Nat.le_refl _) (by decide) rfl
  have hcells : ∀ j u, us[j]? = some u → (w.alloc (.cells #[] 109)).cell? (ad.add j) = some u := fun j u hu => by
    obtain ⟨ad', e, hc⟩ := hr.at_ hu
    cases e
    exact pw_cell_below ((Below.refl w.heap.size w).alloc (Nat.le_refl _) _) hc
  refine calls_hide fun Q HQ => ?_
  have HQ' := Lib.hid HQ
  have HL := Lib.hid hlen
  have HC := Lib.hid hcells
  have H1 := Lib.hid h1
  have HB := Lib.hid hbase
  clear HQ hlen hr hcells h1 hbase
  go_enter Try.func110, Try.ntmps110
  go_wp2_with (at_builtin; refine wpList_append_own _ rfl _ _ 131 rfl w.heap.size 109 i0 (.pointer none) 1 8 Try.underlying131 hi hz0 hz1 hz2 rfl (by decide) _ 0 [] rfl HB.out ad n c us rfl HL.out HC.out H1.out (by simp only [maxLen]; omega) (by omega) (by simp) ?_)
  intro v1 w1 hown hg hnil
  have hnn : ¬ v1 = .slice none 0 0 := hnil
  have H2 := Lib.hid (show w1.ownsRow w.heap.size 109 1 v1 n us by simpa using hown)
  have H3 := Lib.hid hnn
  have H4 := Lib.hid (((Below.refl w.heap.size w).alloc (Nat.le_refl _) _).grown hg (by simp) (fun k hk => by simp [Value.ownBlock] at hk; omega))
  clear hown hg hnil hnn HL HC H1 HB
  go_wp2
  exact HQ'.out _ _ ⟨_, rfl, H2.out, H3.out, H4.out⟩

theorem cinfo_bool : (Try.prog.info? 4).map (fun i => (i.zero, i.size, i.bytes)) = some (some (.bool false), 1, 1) := by kernel_rfl
set_option maxHeartbeats 400000 in
theorem clone_nil_bool (w : World) : Calls Try.prog 111 #[.slice none 0 0] w fun e w' => e = .returned (.slice none 0 0) ∧ w = w' := by
  have hn := fun a n c w => Lib.run_eql_slice_nil (P := Try.prog) w 24 4 a n c 0 0 Try.underlying24
  go_enter Try.func111, Try.ntmps111
  go_wp2
  go_ret
  exact ⟨rfl, rfl⟩
set_option maxHeartbeats 400000 in
theorem clone_bool (ad : Addr) (n c : Nat) (us : List Value) (w : World) (hr : Row1 w (some ad) n us) (h1 : ∀ u ∈ us, u.oneCell' = true) (hl : n ≤ 1000000000000) :
    Calls Try.prog 111 #[.slice (some ad) n c] w fun e w' => ∃ v, e = .returned v ∧ w'.ownsRow w.heap.size 4 1 v n us ∧ ¬ v = .slice none 0 0 ∧ Below w.heap.size w w' := by
  have hn := fun a n c w => Lib.run_eql_slice_nil (P := Try.prog) w 24 4 a n c 0 0 Try.underlying24
  obtain ⟨i0, hi, hz0, hz1, hz2⟩ := info_parts cinfo_bool
  have hlen : us.length = n * 1 := by have := hr.1; omega
  have hbase := World.ownsRow_made (base := w.heap.size) (e := 4) (size := 1) w #[] 0 (Nat.le_refl _) (by decide) rfl
  have hcells : ∀ j u, us[j]? = some u → (w.alloc (.cells #[] 4)).cell? (ad.add j) = some u := fun j u hu => by
    obtain ⟨ad', e, hc⟩ := hr.at_ hu
    cases e
    exact pw_cell_below ((Below.refl w.heap.size w).alloc (Nat.le_refl _) _) hc
  refine calls_hide fun Q HQ => ?_
  have HQ' := Lib.hid HQ
  have HL := Lib.hid hlen
  have HC := Lib.hid hcells
  have H1 := Lib.hid h1
  have HB := Lib.hid hbase
  clear HQ hlen hr hcells h1 hbase
  go_enter Try.func111, Try.ntmps111
  go_wp2_with (at_builtin; refine wpList_append_own _ rfl _ _ 24 rfl w.heap.size 4 i0 (.bool false) 1 1 Try.underlying24 hi hz0 hz1 hz2 rfl (by decide) _ 0 [] rfl HB.out ad n c us rfl HL.out HC.out H1.out (by simp only [maxLen]; omega) (by omega) (by simp) ?_)
  intro v1 w1 hown hg hnil
  have hnn : ¬ v1 = .slice none 0 0 := hnil
  have H2 := Lib.hid (show w1.ownsRow w.heap.size 4 1 v1 n us by simpa using hown)
  have H3 := Lib.hid hnn
  have H4 := Lib.hid (((Below.refl w.heap.size w).alloc (Nat.le_refl _) _).grown hg (by simp) (fun k hk => by simp [Value.ownBlock] at hk; omega))
  clear hown hg hnil hnn HL HC H1 HB
  go_wp2
  exact HQ'.out _ _ ⟨_, rfl, H2.out, H3.out, H4.out⟩

theorem cinfo_int : (Try.prog.info? 3).map (fun i => (i.zero, i.size, i.bytes)) = some (some (.int .i64 0), 1, 8) := by kernel_rfl
set_option maxHeartbeats 400000 in
theorem clone_nil_int (w : World) : Calls Try.prog 62 #[.slice none 0 0] w fun e w' => e = .returned (.slice none 0 0) ∧ w = w' := by
  have hn := fun a n c w => Lib.run_eql_slice_nil (P := Try.prog) w 23 3 a n c 0 0 Try.underlying23
  go_enter Try.func62, Try.ntmps62
  go_wp2
  go_ret
  exact ⟨rfl, rfl⟩
set_option maxHeartbeats 400000 in
theorem clone_int (ad : Addr) (n c : Nat) (us : List Value) (w : World) (hr : Row1 w (some ad) n us) (h1 : ∀ u ∈ us, u.oneCell' = true) (hl : n ≤ 1000000000000) :
    Calls Try.prog 62 #[.slice (some ad) n c] w fun e w' => ∃ v, e = .returned v ∧ w'.ownsRow w.heap.size 3 1 v n us ∧ ¬ v = .slice none 0 0 ∧ Below w.heap.size w w' := by
  have hn := fun a n c w => Lib.run_eql_slice_nil (P := Try.prog) w 23 3 a n c 0 0 Try.underlying23
  obtain ⟨i0, hi, hz0, hz1, hz2⟩ := info_parts cinfo_int
  have hlen : us.length = n * 1 := by have := hr.1; omega
  have hbase := World.ownsRow_made (base := w.heap.size) (e := 3) (size := 1) w #[] 0 (Nat.le_refl _) (by decide) rfl
  have hcells : ∀ j u, us[j]? = some u → (w.alloc (.cells #[] 3)).cell? (ad.add j) = some u := fun j u hu => by
    obtain ⟨ad', e, hc⟩ := hr.at_ hu
    cases e
    exact pw_cell_below ((Below.refl w.heap.size w).alloc (Nat.le_refl _) _) hc
  refine calls_hide fun Q HQ => ?_
  have HQ' := Lib.hid HQ
  have HL := Lib.hid hlen
  have HC := Lib.hid hcells
  have H1 := Lib.hid h1
  have HB := Lib.hid hbase
  clear HQ hlen hr hcells h1 hbase
  go_enter Try.func62, Try.ntmps62
  go_wp2_with (at_builtin; refine wpList_append_own _ rfl _ _ 23 rfl w.heap.size 3 i0 (.int .i64 0) 1 8 Try.underlying23 hi hz0 hz1 hz2 rfl (by decide) _ 0 [] rfl HB.out ad n c us rfl HL.out HC.out H1.out (by simp only [maxLen]; omega) (by omega) (by simp) ?_)
  intro v1 w1 hown hg hnil
  have hnn : ¬ v1 = .slice none 0 0 := hnil
  have H2 := Lib.hid (show w1.ownsRow w.heap.size 3 1 v1 n us by simpa using hown)
  have H3 := Lib.hid hnn
  have H4 := Lib.hid (((Below.refl w.heap.size w).alloc (Nat.le_refl _) _).grown hg (by simp) (fun k hk => by simp [Value.ownBlock] at hk; omega))
  clear hown hg hnil hnn HL HC H1 HB
  go_wp2
  exact HQ'.out _ _ ⟨_, rfl, H2.out, H3.out, H4.out⟩

theorem clone_any_PRecordint (A : Option Addr) (n c : Nat) (us : List Value) (w : World) (hA : A = none → n = 0 ∧ c = 0) (hr : Row1 w A n us) (h1 : ∀ u ∈ us, u.oneCell' = true) (hl : n ≤ 1000000000000) :
    Calls Try.prog 117 #[.slice A n c] w fun e w' => ∃ A' c', e = .returned (.slice A' n c') ∧ w'.ownsRow w.heap.size 150 1 (.slice A' n c') n us ∧ (A' = none → n = 0 ∧ c' = 0) ∧ (A' = none ↔ A = none) ∧ Below w.heap.size w w' := by
  cases A with
  | none =>
    obtain ⟨rfl, rfl⟩ := hA rfl
    have hus : us = [] := List.eq_nil_of_length_eq_zero hr.1
    subst hus
    refine (clone_nil_PRecordint w).mono ?_
    rintro e w' ⟨rfl, rfl⟩
    exact ⟨none, 0, rfl, World.ownsRow_nil _ _ _ _, fun _ => ⟨rfl, rfl⟩, Iff.rfl, Below.refl _ _⟩
  | some ad =>
    refine (clone_PRecordint ad n c us w hr h1 hl).mono ?_
    rintro e w' ⟨v, rfl, ho, hn, hb⟩
    obtain ⟨b, c', rest, rfl, _, _, _⟩ := owns_blk ho hn
    exact ⟨_, c', rfl, ho, (fun e => by cases e), (by simp), hb⟩

theorem clone_any_PRecordL12thing (A : Option Addr) (n c : Nat) (us : List Value) (w : World) (hA : A = none → n = 0 ∧ c = 0) (hr : Row1 w A n us) (h1 : ∀ u ∈ us, u.oneCell' = true) (hl : n ≤ 1000000000000) :
    Calls Try.prog 109 #[.slice A n c] w fun e w' => ∃ A' c', e = .returned (.slice A' n c') ∧ w'.ownsRow w.heap.size 103 1 (.slice A' n c') n us ∧ (A' = none → n = 0 ∧ c' = 0) ∧ (A' = none ↔ A = none) ∧ Below w.heap.size w w' := by
  cases A with
  | none =>
    obtain ⟨rfl, rfl⟩ := hA rfl
    have hus : us = [] := List.eq_nil_of_length_eq_zero hr.1
    subst hus
    refine (clone_nil_PRecordL12thing w).mono ?_
    rintro e w' ⟨rfl, rfl⟩
    exact ⟨none, 0, rfl, World.ownsRow_nil _ _ _ _, fun _ => ⟨rfl, rfl⟩, Iff.rfl, Below.refl _ _⟩
  | some ad =>
    refine (clone_PRecordL12thing ad n c us w hr h1 hl).mono ?_
    rintro e w' ⟨v, rfl, ho, hn, hb⟩
    obtain ⟨b, c', rest, rfl, _, _, _⟩ := owns_blk ho hn
    exact ⟨_, c', rfl, ho, (fun e => by cases e), (by simp), hb⟩

theorem clone_any_PScxint (A : Option Addr) (n c : Nat) (us : List Value) (w : World) (hA : A = none → n = 0 ∧ c = 0) (hr : Row1 w A n us) (h1 : ∀ u ∈ us, u.oneCell' = true) (hl : n ≤ 1000000000000) :
    Calls Try.prog 118 #[.slice A n c] w fun e w' => ∃ A' c', e = .returned (.slice A' n c') ∧ w'.ownsRow w.heap.size 81 1 (.slice A' n c') n us ∧ (A' = none → n = 0 ∧ c' = 0) ∧ (A' = none ↔ A = none) ∧ Below w.heap.size w w' := by
  cases A with
  | none =>
    obtain ⟨rfl, rfl⟩ := hA rfl
    have hus : us = [] := List.eq_nil_of_length_eq_zero hr.1
    subst hus
    refine (clone_nil_PScxint w).mono ?_
    rintro e w' ⟨rfl, rfl⟩
    exact ⟨none, 0, rfl, World.ownsRow_nil _ _ _ _, fun _ => ⟨rfl, rfl⟩, Iff.rfl, Below.refl _ _⟩
  | some ad =>
    refine (clone_PScxint ad n c us w hr h1 hl).mono ?_
    rintro e w' ⟨v, rfl, ho, hn, hb⟩
    obtain ⟨b, c', rest, rfl, _, _, _⟩ := owns_blk ho hn
    exact ⟨_, c', rfl, ho, (fun e => by cases e), (by simp), hb⟩

theorem clone_any_PScxL12thing (A : Option Addr) (n c : Nat) (us : List Value) (w : World) (hA : A = none → n = 0 ∧ c = 0) (hr : Row1 w A n us) (h1 : ∀ u ∈ us, u.oneCell' = true) (hl : n ≤ 1000000000000) :
    Calls Try.prog 110 #[.slice A n c] w fun e w' => ∃ A' c', e = .returned (.slice A' n c') ∧ w'.ownsRow w.heap.size 109 1 (.slice A' n c') n us ∧ (A' = none → n = 0 ∧ c' = 0) ∧ (A' = none ↔ A = none) ∧ Below w.heap.size w w' := by
  cases A with
  | none =>
    obtain ⟨rfl, rfl⟩ := hA rfl
    have hus : us = [] := List.eq_nil_of_length_eq_zero hr.1
    subst hus
    refine (clone_nil_PScxL12thing w).mono ?_
    rintro e w' ⟨rfl, rfl⟩
    exact ⟨none, 0, rfl, World.ownsRow_nil _ _ _ _, fun _ => ⟨rfl, rfl⟩, Iff.rfl, Below.refl _ _⟩
  | some ad =>
    refine (clone_PScxL12thing ad n c us w hr h1 hl).mono ?_
    rintro e w' ⟨v, rfl, ho, hn, hb⟩
    obtain ⟨b, c', rest, rfl, _, _, _⟩ := owns_blk ho hn
    exact ⟨_, c', rfl, ho, (fun e => by cases e), (by simp), hb⟩

theorem clone_any_bool (A : Option Addr) (n c : Nat) (us : List Value) (w : World) (hA : A = none → n = 0 ∧ c = 0) (hr : Row1 w A n us) (h1 : ∀ u ∈ us, u.oneCell' = true) (hl : n ≤ 1000000000000) :
    Calls Try.prog 111 #[.slice A n c] w fun e w' => ∃ A' c', e = .returned (.slice A' n c') ∧ w'.ownsRow w.heap.size 4 1 (.slice A' n c') n us ∧ (A' = none → n = 0 ∧ c' = 0) ∧ (A' = none ↔ A = none) ∧ Below w.heap.size w w' := by
  cases A with
  | none =>
    obtain ⟨rfl, rfl⟩ := hA rfl
    have hus : us = [] := List.eq_nil_of_length_eq_zero hr.1
    subst hus
    refine (clone_nil_bool w).mono ?_
    rintro e w' ⟨rfl, rfl⟩
    exact ⟨none, 0, rfl, World.ownsRow_nil _ _ _ _, fun _ => ⟨rfl, rfl⟩, Iff.rfl, Below.refl _ _⟩
  | some ad =>
    refine (clone_bool ad n c us w hr h1 hl).mono ?_
    rintro e w' ⟨v, rfl, ho, hn, hb⟩
    obtain ⟨b, c', rest, rfl, _, _, _⟩ := owns_blk ho hn
    exact ⟨_, c', rfl, ho, (fun e => by cases e), (by simp), hb⟩

theorem clone_any_int (A : Option Addr) (n c : Nat) (us : List Value) (w : World) (hA : A = none → n = 0 ∧ c = 0) (hr : Row1 w A n us) (h1 : ∀ u ∈ us, u.oneCell' = true) (hl : n ≤ 1000000000000) :
    Calls Try.prog 62 #[.slice A n c] w fun e w' => ∃ A' c', e = .returned (.slice A' n c') ∧ w'.ownsRow w.heap.size 3 1 (.slice A' n c') n us ∧ (A' = none → n = 0 ∧ c' = 0) ∧ (A' = none ↔ A = none) ∧ Below w.heap.size w w' := by
  cases A with
  | none =>
    obtain ⟨rfl, rfl⟩ := hA rfl
    have hus : us = [] := List.eq_nil_of_length_eq_zero hr.1
    subst hus
    refine (clone_nil_int w).mono ?_
    rintro e w' ⟨rfl, rfl⟩
    exact ⟨none, 0, rfl, World.ownsRow_nil _ _ _ _, fun _ => ⟨rfl, rfl⟩, Iff.rfl, Below.refl _ _⟩
  | some ad =>
    refine (clone_int ad n c us w hr h1 hl).mono ?_
    rintro e w' ⟨v, rfl, ho, hn, hb⟩
    obtain ⟨b, c', rest, rfl, _, _, _⟩ := owns_blk ho hn
    exact ⟨_, c', rfl, ho, (fun e => by cases e), (by simp), hb⟩
end Go.Proofs.Ytphhdmopfmelbaa

/- record.New. Written by mk.py. -/
namespace Go.Proofs.Ytphhdmopfmelbaa
open Go.RowKit Go.Proofs.YtphhdmopfmelbaaW.PrintWords
set_option linter.unusedVariables false
set_option linter.unusedSimpArgs false

/-- The SCX-record that a new record has of its own: Aborted. -/
def firstO : ScxO := ⟨.slice none 0 0, .slice none 0 0, .slice none 0 0, 0, 0, none, none, 2, false⟩
/-- Half-way through the fields. -/
def NewInv (TR TC : Nat) (w : World) (fb b : Nat) (ps : List (Option Nat)) (D : List Value) (j : Nat) (wr : World) : Prop :=
  Below w.heap.size w wr ∧ b < wr.heap.size ∧ Blk wr fb TC ((ps.take j).map pv ++ List.replicate (ps.length - j) (.pointer none)) ∧ Blk wr b TR (D ++ [.slice (some ⟨fb, 0, none⟩) ps.length ps.length, .pointer none, .int .u32 0])
theorem NewInv.next {TR TC : Nat} {w wr w' : World} {fb b : Nat} {ps : List (Option Nat)} {D : List Value} {j : Nat} (h : NewInv TR TC w fb b ps D j wr) (hj : j < ps.length) (hfb : w.heap.size ≤ fb) (hne : TR ≠ TC)
    (hf : Fr wr w' (fun k => k = fb)) (hb : Blk w' fb TC (((ps.take j).map pv ++ List.replicate (ps.length - j) (Value.pointer none)).set j (pv (ps.getD j none)))) : NewInv TR TC w fb b ps D (j + 1) w' := by
  obtain ⟨h1, h2, h3, h4⟩ := h
  refine ⟨h1.trans (hf.below h1.size (fun k hk => by omega)), Nat.lt_of_lt_of_le h2 hf.size, ?_, hf.blk h4 (fun e => ?_)⟩
  · have he : ((ps.take j).map pv ++ List.replicate (ps.length - j) (Value.pointer none)).set j (pv (ps.getD j none)) = (ps.take (j + 1)).map pv ++ List.replicate (ps.length - (j + 1)) (.pointer none) := by
      rw [List.set_append_right _ _ (by simp; omega)]
      have e1 : ps.length - j = (ps.length - (j + 1)) + 1 := by omega
      have e2 : j - ((ps.take j).map pv).length = 0 := by simp; omega
      rw [e1, e2, List.replicate_succ, List.set_cons_zero, List.take_succ_eq_append_getElem hj, List.map_append, List.append_assoc]
      simp [List.getD_eq_getElem?_getD, List.getElem?_eq_getElem hj]
    rw [← he]; exact hb
  · subst e
    exact hne (h4.inj h3).1
theorem NewInv.start {TR TC : Nat} (w : World) (ps : List (Option Nat)) (D : List Value) : NewInv TR TC w w.heap.size (w.heap.size + 1) ps D 0
    ((w.alloc (.cells (nils ps.length) TC)).alloc (.cells (D ++ [Value.slice (some ⟨w.heap.size, 0, none⟩) ps.length ps.length, Value.pointer none, Value.int .u32 0]).toArray TR)) := by
  refine ⟨((Below.refl w.heap.size w).alloc (Nat.le_refl _) _).alloc (by simp) _, by simp, ?_, ?_⟩
  · have := (nils_blk w TC ps.length).alloc (.cells (D ++ [Value.slice (some ⟨w.heap.size, 0, none⟩) ps.length ps.length, Value.pointer none, Value.int .u32 0]).toArray TR)
    simpa using this
  · have := Blk.new (w.alloc (.cells (nils ps.length) TC)) TR (D ++ [Value.slice (some ⟨w.heap.size, 0, none⟩) ps.length ps.length, Value.pointer none, Value.int .u32 0])
    simpa using this
theorem NewInv.drew {TR TC : Nat} {w wr : World} {fb b : Nat} {ps : List (Option Nat)} {D : List Value} {j : Nat} (h : NewInv TR TC w fb b ps D j wr) : NewInv TR TC w fb b ps D j wr.drew := ⟨h.1.drew, h.2.1, h.2.2.1, h.2.2.2⟩
theorem NewInv.of {TR TC : Nat} {w w0 wr : World} {fb b : Nat} {ps : List (Option Nat)} {D : List Value} {j : Nat} (h0 : Below w.heap.size w w0) (h : NewInv TR TC w0 fb b ps D j wr) : NewInv TR TC w fb b ps D j wr :=
  ⟨h0.trans (h.1.mono h0.size), h.2⟩
/-- All of it: the new record, and its first SCX-record. -/
theorem NewInv.done {TR dl TC TX : Nat} {w wr w2 w3 : World} {R : Nat → Option RecO} {X : Nat → Option ScxO} {fb b : Nat} {ps : List (Option Nat)} {D : List Value} (hh : Rep TR dl TC TX w R X) (h : NewInv TR TC w fb b ps D ps.length wr)
    (hk : ∀ p ∈ ps, Ok R p) (hD : D.length = dl) (hb0 : w.heap.size ≤ b) (hfb0 : w.heap.size ≤ fb) (hrx : TR ≠ TX) (hcx : TC ≠ TX) (hrc : TR ≠ TC)
    {zs : Array Value} (hf2 : Fr (wr.alloc (.cells zs TX)) w2 (fun k => k = wr.heap.size)) (hx2 : Blk w2 wr.heap.size TX firstO.cells)
    (hf3 : Fr w2 w3 (fun k => k = b)) (hb3 : Blk w3 b TR (D ++ [.slice (some ⟨fb, 0, none⟩) ps.length ps.length, pv (some wr.heap.size), .int .u32 0])) :
    w.heap.size ≤ wr.heap.size ∧ Below w.heap.size w w3 ∧ Rep TR dl TC TX w3 (upd R b ⟨D, fb, ps, some wr.heap.size, false⟩) (upd X wr.heap.size firstO) := by
  obtain ⟨h1, h2, h3, h4⟩ := h
  have hbel2 : Below w.heap.size w w2 := (h1.alloc h1.size _).trans (hf2.below (Nat.le_trans h1.size (by simp)) (fun k hk => by have := h1.size; omega))
  have hbel3 : Below w.heap.size w w3 := hbel2.trans (hf3.below hbel2.size (fun k hk => by omega))
  refine ⟨h1.size, hbel3, hh.addRec (fb := fb) (o := ⟨D, fb, ps, some wr.heap.size, false⟩) hbel3 hb0 hfb0 hb3 hD ?_ (fun x hx => hk _ hx x rfl) rfl h1.size ?_⟩
  · have e1 : Blk wr fb TC (ps.map pv) := by simpa using h3
    have e2 : Blk w2 fb TC (ps.map pv) := hf2.blk (e1.alloc _) (fun e => by have := e1.lt; omega)
    exact hf3.blk e2 (fun e => by subst e; exact hrc (h4.inj e1).1)
  · exact hf3.blk hx2 (fun e => by omega)

theorem ninfo_int : (Try.prog.info? 170).map (fun i => (i.zero, i.size, i.bytes)) = some (some (.agg #[.pointer none]), 1, 8) := by kernel_rfl
set_option maxHeartbeats 1000000 in
set_option maxRecDepth 100000 in
theorem new_int (d : Int) (A : Option Addr) (c : Nat) (ps : List (Option Nat)) (R : Nat → Option RecO) (X : Nat → Option ScxO) (w : World) (h : Repint w R X) (hr : Row1 w A ps.length (ps.map pv)) (hk : ∀ p ∈ ps, Ok R p) (hn : ps.length ≤ 1000000) :
    Calls Try.prog 78 #[.int .i64 d, .slice A ps.length c] w fun e w' => ∃ b fb xb, e = .returned (pv (some b)) ∧ w.heap.size ≤ b ∧ w.heap.size ≤ fb ∧ w.heap.size ≤ xb ∧ Below w.heap.size w w' ∧
      Repint w' (upd R b ⟨[.int .i64 d], fb, ps, some xb, false⟩) (upd X xb firstO) := by
  have hmk := fun w => run_make_nils (P := Try.prog) Try.underlying171 ninfo_int rfl ps.length (by omega) (by omega) w
  refine calls_hide fun Q HQ => ?_
  have HQ' := Lib.hid HQ
  have HK := Lib.hid hk
  have HR := Lib.hid hr
  have HH := Lib.hid h
  clear HQ hk hr h
  go_enter Try.func78, Try.ntmps78
  go_wp2
  have hst := NewInv.start (TR := 178) (TC := 170) w ps [.int .i64 d]
  go_loopw [17] (fun k wr => ∃ j : Nat, j ≤ ps.length ∧ k = .int .i64 j ∧ NewInv 178 170 w w.heap.size (w.heap.size + 1) ps [.int .i64 d] j wr) (fun k _ => ps.length - (intOf k).toNat)
  case atStart => first | exact ⟨0, Nat.zero_le _, rfl, hst⟩ | exact ⟨0, Nat.zero_le _, rfl, by simpa using hst⟩
  case round =>
    clear hst
    obtain ⟨j, hj, rfl, hI⟩ := hrel
    have HI := Lib.hid hI
    have hbel := hI.1
    have hsz := hI.2.1
    clear hI
    by_cases hlt : j < ps.length
    · have hx0 : (ps.map pv)[j]? = some (pv (ps.getD j none)) := by simp [List.getD_eq_getElem?_getD, List.getElem?_eq_getElem hlt]
      obtain ⟨ad, hA, hc0⟩ := HR.out.at_ hx0
      have hc : wr.cell? (ad.add j) = some (pv (ps.getD j none)) := pw_cell_below hbel hc0
      have hsl : wr.cell? ⟨(w.heap.size + 1), 1, none⟩ = some (.slice (some ⟨w.heap.size, 0, none⟩) ps.length ps.length) := by rw [HI.out.2.2.2.cell]; rfl
      have hp : PtrTo 178 4 wr (ps.getD j none) := (HH.out.below hbel).recPtr (HK.out _ (by simp [List.getD_eq_getElem?_getD, List.getElem?_eq_getElem hlt]))
      have hu : ((ps.take j).map pv ++ List.replicate (ps.length - j) (Value.pointer none))[j]? = some (.pointer none) := by
        rw [List.getElem?_append_right (by simp; omega), List.getElem?_replicate, if_pos (by simp; omega)]
      have HC := Lib.hid (cell_store_Recordint 0 none [] w.heap.size j 170 _ wr (GAt.nil _ _ _ _ _) (Nat.zero_le _) (by simp) HI.out.2.2.1 (by decide) (by decide) (ps.getD j none) _ hu hp)
      have HN := Lib.hid (fun w' hf hb => HI.out.next (w' := w') hlt (by omega) (by decide) hf hb)
      generalize ps.getD j none = p at *
      clear hbel hx0 hc0 hp hu HR HH HI HK
      subst hA
      go_wp2_with fail
      refine HC.out.mono ?_
      rintro e w1 ⟨rfl, H, hb⟩
      have HN1 := Lib.hid (HN.out w1 H.fr0 hb)
      clear H hb HN HC hc
      go_wp2
      go_roundw
      case rel => exact ⟨j + 1, by omega, by go_num, HN1.out⟩
      case measure => simp [intOf]; omega
    · obtain rfl : j = ps.length := by omega
      have HB := HI.out.2.2.2
      have HC := Lib.hid (num_store 0 none [] wr.heap.size 7 152 [.slice none 0 0, .slice none 0 0, .slice none 0 0, .int .i64 0, .int .i64 0, .pointer none, .pointer none, .int .i64 0, .int .u32 0] (wr.alloc (.cells #[.slice none 0 0, .slice none 0 0, .slice none 0 0, .int .i64 0, .int .i64 0, .pointer none, .pointer none, .int .i64 0, .int .u32 0] 152)) (GAt.nil _ _ _ _ _) (Nat.zero_le _) (by simp) (Blk.new wr _ _) (by decide) (by decide) 2 (by decide) (by decide) (.int .i64 0) rfl)
      have HB1 := Lib.hid HB
      have HR0 := Lib.hid hbel.size
      clear HB hbel
      go_wp2_with fail
      refine HC.out.mono ?_
      rintro e w2 ⟨rfl, H, hb⟩
      have hf2 := Lib.hid H.fr0
      have hx2 := Lib.hid (show Blk w2 wr.heap.size 152 firstO.cells from hb)
      have hr2 := Lib.hid (H.fr0.blk (HB1.out.alloc _) (fun e => by omega))
      have HC2 := Lib.hid (cell_store_Scxint 0 none [] (w.heap.size + 1) 2 178 _ w2 (GAt.nil _ _ _ _ _) (Nat.zero_le _) (by simp) hr2.out (by decide) (by decide) (some wr.heap.size) (.pointer none) rfl (hx2.out.ptr))
      clear H hb HC HB1 hr2
      go_wp2_with fail
      refine HC2.out.mono ?_
      rintro e w3 ⟨rfl, H, hb⟩
      have HD := Lib.hid (HI.out.done HH.out HK.out rfl (by omega) (by omega) (by decide) (by decide) (by decide) hf2.out hx2.out H.fr0 hb)
      clear H hb HC2 hx2 hf2
      go_wp2
      exact HQ'.out _ _ ⟨_, _, _, rfl, by omega, by omega, HD.out.1, HD.out.2.1, HD.out.2.2⟩

theorem ninfo_L12thing : (Try.prog.info? 191).map (fun i => (i.zero, i.size, i.bytes)) = some (some (.agg #[.pointer none]), 1, 8) := by kernel_rfl
set_option maxHeartbeats 1000000 in
set_option maxRecDepth 100000 in
theorem new_L12thing (d : Int) (s : ByteArray) (A : Option Addr) (c : Nat) (ps : List (Option Nat)) (R : Nat → Option RecO) (X : Nat → Option ScxO) (w : World) (h : RepL12thing w R X) (hr : Row1 w A ps.length (ps.map pv)) (hk : ∀ p ∈ ps, Ok R p) (hn : ps.length ≤ 1000000) :
    Calls Try.prog 48 #[.agg #[.int .i64 d, .string s], .slice A ps.length c] w fun e w' => ∃ b fb xb, e = .returned (pv (some b)) ∧ w.heap.size ≤ b ∧ w.heap.size ≤ fb ∧ w.heap.size ≤ xb ∧ Below w.heap.size w w' ∧
      RepL12thing w' (upd R b ⟨[.int .i64 d, .string s], fb, ps, some xb, false⟩) (upd X xb firstO) := by
  have hmk := fun w => run_make_nils (P := Try.prog) Try.underlying108 ninfo_L12thing rfl ps.length (by omega) (by omega) w
  refine calls_hide fun Q HQ => ?_
  have HQ' := Lib.hid HQ
  have HK := Lib.hid hk
  have HR := Lib.hid hr
  have HH := Lib.hid h
  clear HQ hk hr h
  go_enter Try.func48, Try.ntmps48
  go_wp2
  go_region
  go_wp2
  have hst := ((NewInv.start (TR := 124) (TC := 191) (w.alloc (.cells ([.int .i64 d, .string s] : List Value).toArray 106)) ps [.int .i64 d, .string s]).of ((Below.refl w.heap.size w).alloc (Nat.le_refl _) _)).drew
  go_loopw [17] (fun k wr => ∃ j : Nat, j ≤ ps.length ∧ k = .int .i64 j ∧ NewInv 124 191 w (w.heap.size + 1) (w.heap.size + 2) ps [.int .i64 d, .string s] j wr) (fun k _ => ps.length - (intOf k).toNat)
  case atStart => first | exact ⟨0, Nat.zero_le _, rfl, hst⟩ | exact ⟨0, Nat.zero_le _, rfl, by simpa using hst⟩
  case round =>
    clear hst
    obtain ⟨j, hj, rfl, hI⟩ := hrel
    have HI := Lib.hid hI
    have hbel := hI.1
    have hsz := hI.2.1
    clear hI
    by_cases hlt : j < ps.length
    · have hx0 : (ps.map pv)[j]? = some (pv (ps.getD j none)) := by simp [List.getD_eq_getElem?_getD, List.getElem?_eq_getElem hlt]
      obtain ⟨ad, hA, hc0⟩ := HR.out.at_ hx0
      have hc : wr.cell? (ad.add j) = some (pv (ps.getD j none)) := pw_cell_below hbel hc0
      have hsl : wr.cell? ⟨(w.heap.size + 2), 2, none⟩ = some (.slice (some ⟨(w.heap.size + 1), 0, none⟩) ps.length ps.length) := by rw [HI.out.2.2.2.cell]; rfl
      have hp : PtrTo 124 5 wr (ps.getD j none) := (HH.out.below hbel).recPtr (HK.out _ (by simp [List.getD_eq_getElem?_getD, List.getElem?_eq_getElem hlt]))
      have hu : ((ps.take j).map pv ++ List.replicate (ps.length - j) (Value.pointer none))[j]? = some (.pointer none) := by
        rw [List.getElem?_append_right (by simp; omega), List.getElem?_replicate, if_pos (by simp; omega)]
      have HC := Lib.hid (cell_store_RecordL12thing 0 none [] (w.heap.size + 1) j 191 _ wr (GAt.nil _ _ _ _ _) (Nat.zero_le _) (by simp) HI.out.2.2.1 (by decide) (by decide) (ps.getD j none) _ hu hp)
      have HN := Lib.hid (fun w' hf hb => HI.out.next (w' := w') hlt (by omega) (by decide) hf hb)
      generalize ps.getD j none = p at *
      clear hbel hx0 hc0 hp hu HR HH HI HK
      subst hA
      go_wp2_with fail
      refine HC.out.mono ?_
      rintro e w1 ⟨rfl, H, hb⟩
      have HN1 := Lib.hid (HN.out w1 H.fr0 hb)
      clear H hb HN HC hc
      go_wp2
      go_roundw
      case rel => exact ⟨j + 1, by omega, by go_num, HN1.out⟩
      case measure => simp [intOf]; omega
    · obtain rfl : j = ps.length := by omega
      have HB := HI.out.2.2.2
      have HC := Lib.hid (num_store 0 none [] wr.heap.size 7 141 [.slice none 0 0, .slice none 0 0, .slice none 0 0, .int .i64 0, .int .i64 0, .pointer none, .pointer none, .int .i64 0, .int .u32 0] (wr.alloc (.cells #[.slice none 0 0, .slice none 0 0, .slice none 0 0, .int .i64 0, .int .i64 0, .pointer none, .pointer none, .int .i64 0, .int .u32 0] 141)) (GAt.nil _ _ _ _ _) (Nat.zero_le _) (by simp) (Blk.new wr _ _) (by decide) (by decide) 2 (by decide) (by decide) (.int .i64 0) rfl)
      have HB1 := Lib.hid HB
      have HR0 := Lib.hid hbel.size
      clear HB hbel
      go_wp2_with fail
      refine HC.out.mono ?_
      rintro e w2 ⟨rfl, H, hb⟩
      have hf2 := Lib.hid H.fr0
      have hx2 := Lib.hid (show Blk w2 wr.heap.size 141 firstO.cells from hb)
      have hr2 := Lib.hid (H.fr0.blk (HB1.out.alloc _) (fun e => by omega))
      have HC2 := Lib.hid (cell_store_ScxL12thing 0 none [] (w.heap.size + 2) 3 124 _ w2 (GAt.nil _ _ _ _ _) (Nat.zero_le _) (by simp) hr2.out (by decide) (by decide) (some wr.heap.size) (.pointer none) rfl (hx2.out.ptr))
      clear H hb HC HB1 hr2
      go_wp2_with fail
      refine HC2.out.mono ?_
      rintro e w3 ⟨rfl, H, hb⟩
      have HD := Lib.hid (HI.out.done HH.out HK.out rfl (by omega) (by omega) (by decide) (by decide) (by decide) hf2.out hx2.out H.fr0 hb)
      clear H hb HC2 hx2 hf2
      go_wp2
      exact HQ'.out _ _ ⟨_, _, _, rfl, by omega, by omega, HD.out.1, HD.out.2.1, HD.out.2.2⟩
end Go.Proofs.Ytphhdmopfmelbaa

/- record.NewScx. Written by mk.py. -/
namespace Go.Proofs.Ytphhdmopfmelbaa
open Go.RowKit Go.Proofs.YtphhdmopfmelbaaW.PrintWords
set_option linter.unusedVariables false
set_option linter.unusedSimpArgs false

set_option maxHeartbeats 1000000 in
theorem newscx_int (A1 : Option Addr) (n1 c1 : Nat) (us1 : List Value) (A2 : Option Addr) (n2 c2 : Nat) (us2 : List Value) (A3 : Option Addr) (n3 c3 : Nat) (us3 : List Value) (at_ fld : Int) (old new : Option Nat)
    (R : Nat → Option RecO) (X : Nat → Option ScxO) (w : World) (h : Repint w R X) (hr1 : Row1 w A1 n1 us1) (hr2 : Row1 w A2 n2 us2) (hr3 : Row1 w A3 n3 us3)
    (hA1 : A1 = none → n1 = 0 ∧ c1 = 0) (hA2 : A2 = none → n2 = 0 ∧ c2 = 0) (hA3 : A3 = none → n3 = 0 ∧ c3 = 0)
    (o1 : ∀ u ∈ us1, u.oneCell' = true) (o2 : ∀ u ∈ us2, u.oneCell' = true) (o3 : ∀ u ∈ us3, u.oneCell' = true) (l1 : n1 ≤ 1000000000000) (l2 : n2 ≤ 1000000000000) (l3 : n3 ≤ 1000000000000) :
    Calls Try.prog 85 #[.slice A1 n1 c1, .slice A2 n2 c2, .slice A3 n3 c3, .int .i64 at_, .int .i64 fld, pv old, pv new] w fun e w' => ∃ b v1 v2 v3, e = .returned (pv (some b)) ∧ w.heap.size ≤ b ∧ Below w.heap.size w w' ∧
      Repint w' R (upd X b ⟨v1, v2, v3, at_, fld, old, new, 0, false⟩) ∧ w'.ownsRow w.heap.size 150 1 v1 n1 us1 ∧ w'.ownsRow w.heap.size 81 1 v2 n2 us2 ∧ w'.ownsRow w.heap.size 4 1 v3 n3 us3 := by
  refine calls_hide fun Q HQ => ?_
  have HQ' := Lib.hid HQ
  have HC1 := Lib.hid (clone_any_PRecordint A1 n1 c1 us1 w hA1 hr1 o1 l1)
  have HC2 := Lib.hid (fun w hr2 => clone_any_PScxint A2 n2 c2 us2 w hA2 hr2 o2 l2)
  have HC3 := Lib.hid (fun w hr3 => clone_any_bool A3 n3 c3 us3 w hA3 hr3 o3 l3)
  have HR2 := Lib.hid hr2
  have HR3 := Lib.hid hr3
  have HH := Lib.hid h
  clear HQ h hr1 hr2 hr3 hA1 hA2 hA3 o1 o2 o3 l1 l2 l3
  go_enter Try.func85, Try.ntmps85
  go_wp2_with fail
  refine HC1.out.mono ?_
  rintro e w1 ⟨A1', c1', rfl, q1, _, _, b1⟩
  have Q1 := Lib.hid q1
  have B1 := Lib.hid b1
  have D2 := Lib.hid (HC2.out w1 (HR2.out.below b1))
  clear q1 b1 HC1 HC2
  go_wp2_with fail
  refine D2.out.mono ?_
  rintro e w2 ⟨A2', c2', rfl, q2, _, _, b2⟩
  have Q2 := Lib.hid q2
  have B2 := Lib.hid (B1.out.trans (b2.mono B1.out.size))
  have B12 := Lib.hid b2
  have D3 := Lib.hid (HC3.out w2 ((HR3.out.below B1.out).below b2))
  clear q2 b2 HC3 D2
  go_wp2_with fail
  refine D3.out.mono ?_
  rintro e w3 ⟨A3', c3', rfl, q3, _, _, b3⟩
  have B3 := Lib.hid (B2.out.trans (b3.mono B2.out.size))
  have hk : ∀ (o : Obj) (k : Nat), k < w3.heap.size → (w3.alloc o).heap[k]? = w3.heap[k]? := fun o k hk => Below.heap_alloc _ _ _ hk
  have Q3 := Lib.hid (World.ownsRow.alloc (own_weaken q3 B2.out.size))
  have Q2' := Lib.hid (World.ownsRow.alloc (own_weaken (pw_own_below Q2.out b3) B1.out.size))
  have Q1' := Lib.hid (World.ownsRow.alloc (pw_own_below (pw_own_below Q1.out B12.out) b3))
  have HN := Lib.hid (Blk.new w3 152 (ScxO.cells ⟨.slice A1' n1 c1', .slice A2' n2 c2', .slice A3' n3 c3', at_, fld, old, new, 0, false⟩))
  have HB := Lib.hid (B3.out.alloc B3.out.size (.cells (ScxO.cells ⟨.slice A1' n1 c1', .slice A2' n2 c2', .slice A3' n3 c3', at_, fld, old, new, 0, false⟩).toArray 152))
  have HS := Lib.hid B3.out.size
  clear q3 b3 hk D3 Q1 Q2
  go_wp2
  exact HQ'.out _ _ ⟨_, _, _, _, rfl, HS.out, HB.out, HH.out.addScx HB.out HN.out, Q1'.out _, Q2'.out _, Q3.out _⟩

set_option maxHeartbeats 1000000 in
theorem newscx_L12thing (A1 : Option Addr) (n1 c1 : Nat) (us1 : List Value) (A2 : Option Addr) (n2 c2 : Nat) (us2 : List Value) (A3 : Option Addr) (n3 c3 : Nat) (us3 : List Value) (at_ fld : Int) (old new : Option Nat)
    (R : Nat → Option RecO) (X : Nat → Option ScxO) (w : World) (h : RepL12thing w R X) (hr1 : Row1 w A1 n1 us1) (hr2 : Row1 w A2 n2 us2) (hr3 : Row1 w A3 n3 us3)
    (hA1 : A1 = none → n1 = 0 ∧ c1 = 0) (hA2 : A2 = none → n2 = 0 ∧ c2 = 0) (hA3 : A3 = none → n3 = 0 ∧ c3 = 0)
    (o1 : ∀ u ∈ us1, u.oneCell' = true) (o2 : ∀ u ∈ us2, u.oneCell' = true) (o3 : ∀ u ∈ us3, u.oneCell' = true) (l1 : n1 ≤ 1000000000000) (l2 : n2 ≤ 1000000000000) (l3 : n3 ≤ 1000000000000) :
    Calls Try.prog 56 #[.slice A1 n1 c1, .slice A2 n2 c2, .slice A3 n3 c3, .int .i64 at_, .int .i64 fld, pv old, pv new] w fun e w' => ∃ b v1 v2 v3, e = .returned (pv (some b)) ∧ w.heap.size ≤ b ∧ Below w.heap.size w w' ∧
      RepL12thing w' R (upd X b ⟨v1, v2, v3, at_, fld, old, new, 0, false⟩) ∧ w'.ownsRow w.heap.size 103 1 v1 n1 us1 ∧ w'.ownsRow w.heap.size 109 1 v2 n2 us2 ∧ w'.ownsRow w.heap.size 4 1 v3 n3 us3 := by
  refine calls_hide fun Q HQ => ?_
  have HQ' := Lib.hid HQ
  have HC1 := Lib.hid (clone_any_PRecordL12thing A1 n1 c1 us1 w hA1 hr1 o1 l1)
  have HC2 := Lib.hid (fun w hr2 => clone_any_PScxL12thing A2 n2 c2 us2 w hA2 hr2 o2 l2)
  have HC3 := Lib.hid (fun w hr3 => clone_any_bool A3 n3 c3 us3 w hA3 hr3 o3 l3)
  have HR2 := Lib.hid hr2
  have HR3 := Lib.hid hr3
  have HH := Lib.hid h
  clear HQ h hr1 hr2 hr3 hA1 hA2 hA3 o1 o2 o3 l1 l2 l3
  go_enter Try.func56, Try.ntmps56
  go_wp2_with fail
  refine HC1.out.mono ?_
  rintro e w1 ⟨A1', c1', rfl, q1, _, _, b1⟩
  have Q1 := Lib.hid q1
  have B1 := Lib.hid b1
  have D2 := Lib.hid (HC2.out w1 (HR2.out.below b1))
  clear q1 b1 HC1 HC2
  go_wp2_with fail
  refine D2.out.mono ?_
  rintro e w2 ⟨A2', c2', rfl, q2, _, _, b2⟩
  have Q2 := Lib.hid q2
  have B2 := Lib.hid (B1.out.trans (b2.mono B1.out.size))
  have B12 := Lib.hid b2
  have D3 := Lib.hid (HC3.out w2 ((HR3.out.below B1.out).below b2))
  clear q2 b2 HC3 D2
  go_wp2_with fail
  refine D3.out.mono ?_
  rintro e w3 ⟨A3', c3', rfl, q3, _, _, b3⟩
  have B3 := Lib.hid (B2.out.trans (b3.mono B2.out.size))
  have hk : ∀ (o : Obj) (k : Nat), k < w3.heap.size → (w3.alloc o).heap[k]? = w3.heap[k]? := fun o k hk => Below.heap_alloc _ _ _ hk
  have Q3 := Lib.hid (World.ownsRow.alloc (own_weaken q3 B2.out.size))
  have Q2' := Lib.hid (World.ownsRow.alloc (own_weaken (pw_own_below Q2.out b3) B1.out.size))
  have Q1' := Lib.hid (World.ownsRow.alloc (pw_own_below (pw_own_below Q1.out B12.out) b3))
  have HN := Lib.hid (Blk.new w3 141 (ScxO.cells ⟨.slice A1' n1 c1', .slice A2' n2 c2', .slice A3' n3 c3', at_, fld, old, new, 0, false⟩))
  have HB := Lib.hid (B3.out.alloc B3.out.size (.cells (ScxO.cells ⟨.slice A1' n1 c1', .slice A2' n2 c2', .slice A3' n3 c3', at_, fld, old, new, 0, false⟩).toArray 141))
  have HS := Lib.hid B3.out.size
  clear q3 b3 hk D3 Q1 Q2
  go_wp2
  exact HQ'.out _ _ ⟨_, _, _, _, rfl, HS.out, HB.out, HH.out.addScx HB.out HN.out, Q1'.out _, Q2'.out _, Q3.out _⟩
end Go.Proofs.Ytphhdmopfmelbaa

/- slices.Index of pointers. Written by mk.py. -/
namespace Go.Proofs.Ytphhdmopfmelbaa
open Go.RowKit Go.Proofs.YtphhdmopfmelbaaW.PrintWords
set_option linter.unusedVariables false
set_option linter.unusedSimpArgs false

/-- Where x stands first; -1: nowhere. -/
def idx (ps : List (Option Nat)) (x : Option Nat) : Int := match ps.findIdx? (fun p => decide (p = x)) with | some k => k | none => -1
theorem idx_hit {ps : List (Option Nat)} {x : Option Nat} {k : Nat} (hk : k < ps.length) (hn : ∀ j, j < k → ¬ ps[j]? = some x) (he : ps[k]? = some x) : idx ps x = k := by
  have : ps.findIdx? (fun p => decide (p = x)) = some k := by
    rw [List.findIdx?_eq_some_iff_getElem]
    refine ⟨hk, by simpa [List.getElem?_eq_getElem hk] using he, fun j hj => ?_⟩
    have := hn j hj
    simpa [List.getElem?_eq_getElem (show j < ps.length by omega)] using this
  simp [idx, this]
theorem idx_miss {ps : List (Option Nat)} {x : Option Nat} (hn : ∀ j, j < ps.length → ¬ ps[j]? = some x) : idx ps x = -1 := by
  have : ps.findIdx? (fun p => decide (p = x)) = none := by
    rw [List.findIdx?_eq_none_iff]
    intro p hp
    obtain ⟨j, hj, rfl⟩ := List.getElem_of_mem hp
    have := hn j hj
    simpa [List.getElem?_eq_getElem hj] using this
  simp [idx, this]

theorem psize_PRecordint : ∃ i, Try.prog.info? 178 = some i ∧ i.size ≠ 0 := by
  obtain ⟨i, hi, hz⟩ := Option.map_eq_some_iff.1 size_Recordint
  exact ⟨i, hi, by simpa using hz⟩
set_option maxHeartbeats 400000 in
theorem index_PRecordint (A : Option Addr) (c : Nat) (ps : List (Option Nat)) (x : Option Nat) (w : World) (hr : Row1 w A ps.length (ps.map pv)) (hk : ∀ p ∈ ps, Known w p) (hx : Known w x) (hl : ps.length ≤ 1000000000000) :
    Calls Try.prog 93 #[.slice A ps.length c, pv x] w fun e w' => e = .returned (.int .i64 (idx ps x)) ∧ w = w' := by
  obtain ⟨i, hi, hsz⟩ := psize_PRecordint
  have HE := Lib.hid (fun p hp => run_eql_ptr (P := Try.prog) (w := w) (x := x) (y := p) Try.underlying150 hi hsz hx hp)
  have HK := Lib.hid hk
  have HR := Lib.hid hr
  have HH := Lib.hid (fun k => @idx_hit ps x k)
  have HM := Lib.hid (@idx_miss ps x)
  refine calls_hide fun Q HQ => ?_
  have HQ' := Lib.hid HQ
  clear HQ hr hk hx hi hsz
  go_enter Try.func93, Try.ntmps93
  go_wp2
  go_loop [8] (fun k => ∃ j : Nat, j ≤ ps.length ∧ k = .int .i64 j ∧ ∀ i, i < j → ¬ ps[i]? = some x) (fun k => ps.length - (intOf k).toNat)
  case atStart => exact ⟨0, Nat.zero_le _, rfl, fun i hi => by omega⟩
  case round =>
    obtain ⟨j, hj, rfl, hN⟩ := hrel
    have HN := Lib.hid hN
    clear hN
    by_cases hlt : j < ps.length
    · have hx0 : (ps.map pv)[j]? = some (pv (ps.getD j none)) := by simp [List.getD_eq_getElem?_getD, List.getElem?_eq_getElem hlt]
      have hx1 : ps[j]? = some (ps.getD j none) := by simp [List.getD_eq_getElem?_getD, List.getElem?_eq_getElem hlt]
      obtain ⟨ad, hA, hc⟩ := HR.out.at_ hx0
      have he := HE.out (ps.getD j none) (HK.out _ (List.mem_of_getElem? hx1))
      have H1 := Lib.hid hx1
      clear hx0 hx1 HR HK HE
      generalize ps.getD j none = p at *
      subst hA
      by_cases heq : x = p
      · rw [decide_eq_true heq] at he
        have HF := Lib.hid (HH.out j hlt HN.out (heq ▸ H1.out))
        clear heq HM HH HN H1
        go_wp2
        exact HQ'.out _ _ ⟨by rw [HF.out], rfl⟩
      · rw [decide_eq_false heq] at he
        have HN2 := Lib.hid (fun (i : Nat) (hi : i < j + 1) (hcx : ps[i]? = some x) => by
          rcases Nat.lt_or_eq_of_le (Nat.lt_succ_iff.1 hi) with h | h
          · exact HN.out i h hcx
          · subst h
            rw [H1.out] at hcx
            exact heq (Option.some.inj hcx).symm)
        clear heq HM HH HN H1 HQ'
        go_wp2
        go_round
        case rel => exact ⟨j + 1, by omega, by go_num, HN2.out⟩
        case measure => simp [intOf]; omega
    · obtain rfl : j = ps.length := by omega
      have HF := Lib.hid (HM.out HN.out)
      clear HM HH HN HR HK HE
      go_wp2
      exact HQ'.out _ _ ⟨by rw [HF.out], rfl⟩

theorem psize_PScxint : ∃ i, Try.prog.info? 152 = some i ∧ i.size ≠ 0 := by
  obtain ⟨i, hi, hz⟩ := Option.map_eq_some_iff.1 size_Scxint
  exact ⟨i, hi, by simpa using hz⟩
set_option maxHeartbeats 400000 in
theorem index_PScxint (A : Option Addr) (c : Nat) (ps : List (Option Nat)) (x : Option Nat) (w : World) (hr : Row1 w A ps.length (ps.map pv)) (hk : ∀ p ∈ ps, Known w p) (hx : Known w x) (hl : ps.length ≤ 1000000000000) :
    Calls Try.prog 96 #[.slice A ps.length c, pv x] w fun e w' => e = .returned (.int .i64 (idx ps x)) ∧ w = w' := by
  obtain ⟨i, hi, hsz⟩ := psize_PScxint
  have HE := Lib.hid (fun p hp => run_eql_ptr (P := Try.prog) (w := w) (x := x) (y := p) Try.underlying81 hi hsz hx hp)
  have HK := Lib.hid hk
  have HR := Lib.hid hr
  have HH := Lib.hid (fun k => @idx_hit ps x k)
  have HM := Lib.hid (@idx_miss ps x)
  refine calls_hide fun Q HQ => ?_
  have HQ' := Lib.hid HQ
  clear HQ hr hk hx hi hsz
  go_enter Try.func96, Try.ntmps96
  go_wp2
  go_loop [8] (fun k => ∃ j : Nat, j ≤ ps.length ∧ k = .int .i64 j ∧ ∀ i, i < j → ¬ ps[i]? = some x) (fun k => ps.length - (intOf k).toNat)
  case atStart => exact ⟨0, Nat.zero_le _, rfl, fun i hi => by omega⟩
  case round =>
    obtain ⟨j, hj, rfl, hN⟩ := hrel
    have HN := Lib.hid hN
    clear hN
    by_cases hlt : j < ps.length
    · have hx0 : (ps.map pv)[j]? = some (pv (ps.getD j none)) := by simp [List.getD_eq_getElem?_getD, List.getElem?_eq_getElem hlt]
      have hx1 : ps[j]? = some (ps.getD j none) := by simp [List.getD_eq_getElem?_getD, List.getElem?_eq_getElem hlt]
      obtain ⟨ad, hA, hc⟩ := HR.out.at_ hx0
      have he := HE.out (ps.getD j none) (HK.out _ (List.mem_of_getElem? hx1))
      have H1 := Lib.hid hx1
      clear hx0 hx1 HR HK HE
      generalize ps.getD j none = p at *
      subst hA
      by_cases heq : x = p
      · rw [decide_eq_true heq] at he
        have HF := Lib.hid (HH.out j hlt HN.out (heq ▸ H1.out))
        clear heq HM HH HN H1
        go_wp2
        exact HQ'.out _ _ ⟨by rw [HF.out], rfl⟩
      · rw [decide_eq_false heq] at he
        have HN2 := Lib.hid (fun (i : Nat) (hi : i < j + 1) (hcx : ps[i]? = some x) => by
          rcases Nat.lt_or_eq_of_le (Nat.lt_succ_iff.1 hi) with h | h
          · exact HN.out i h hcx
          · subst h
            rw [H1.out] at hcx
            exact heq (Option.some.inj hcx).symm)
        clear heq HM HH HN H1 HQ'
        go_wp2
        go_round
        case rel => exact ⟨j + 1, by omega, by go_num, HN2.out⟩
        case measure => simp [intOf]; omega
    · obtain rfl : j = ps.length := by omega
      have HF := Lib.hid (HM.out HN.out)
      clear HM HH HN HR HK HE
      go_wp2
      exact HQ'.out _ _ ⟨by rw [HF.out], rfl⟩
end Go.Proofs.Ytphhdmopfmelbaa

/-
  A made world of records (of int): the struct of three lists, and what stands in memory, by numbers. No walk.
-/
namespace Go.Proofs.Ytphhdmopfmelbaa
open Go.RowKit Go.Proofs.YtphhdmopfmelbaaW.PrintWords
set_option linter.unusedVariables false
set_option linter.unusedSimpArgs false

abbrev TPR : Nat := 150
abbrev TPX : Nat := 81
/-- The made world stands at m (of type TM): its records rs, their first infos fs, the SCX-records xs. -/
structure MadeAt (TM : Nat) (w : World) (B m : Nat) (rs fs xs : List Nat) (v1 v2 v3 : Value) : Prop where
  blk : Blk w m TM [v1, v2, v3]
  o1 : w.ownsRow B TPR 1 v1 rs.length (rs.map fun b => pv (some b))
  o2 : w.ownsRow B TPX 1 v2 fs.length (fs.map fun b => pv (some b))
  o3 : w.ownsRow B TPX 1 v3 xs.length (xs.map fun b => pv (some b))
  ne : ∀ k, v2.ownBlock = some k → v3.ownBlock ≠ some k
/-- The record of a number. -/
def rp (rs : List Nat) (n : Int) : Option Nat := if n < 0 then none else rs[n.toNat]?

section
variable {TM : Nat}
theorem MadeAt.fr {w w' : World} {B m : Nat} {rs fs xs : List Nat} {v1 v2 v3 : Value} (h : MadeAt TM w B m rs fs xs v1 v2 v3) {S : Nat → Prop} (hf : Fr w w' S)
    (h0 : ¬ S m) (h1 : ∀ k, v1.ownBlock = some k ∨ v2.ownBlock = some k ∨ v3.ownBlock = some k → ¬ S k) : MadeAt TM w' B m rs fs xs v1 v2 v3 :=
  ⟨hf.blk h.blk h0, owns_fr h.o1 hf (fun k hk => h1 k (.inl hk)), owns_fr h.o2 hf (fun k hk => h1 k (.inr (.inl hk))), owns_fr h.o3 hf (fun k hk => h1 k (.inr (.inr hk))), h.ne⟩
theorem MadeAt.below {w w' : World} {B m : Nat} {rs fs xs : List Nat} {v1 v2 v3 : Value} (h : MadeAt TM w B m rs fs xs v1 v2 v3) (hb : Below w.heap.size w w') : MadeAt TM w' B m rs fs xs v1 v2 v3 :=
  h.fr (S := fun _ => False) (Fr.of_below0 hb) id (fun _ _ => id)
/-- Blocks of other types have turned. -/
theorem MadeAt.types {w w' : World} {B m : Nat} {rs fs xs : List Nat} {v1 v2 v3 : Value} (h : MadeAt TM w B m rs fs xs v1 v2 v3) {S : Nat → Prop} (hf : Fr w w' S)
    (hS : ∀ k, S k → ∃ T ys, Blk w k T ys ∧ T ≠ TM ∧ T ≠ TPR ∧ T ≠ TPX) : MadeAt TM w' B m rs fs xs v1 v2 v3 := by
  refine h.fr hf (fun hs => ?_) (fun k hk hs => ?_)
  · obtain ⟨T, ys, hb, h1, _⟩ := hS m hs
    exact h1 (hb.inj h.blk).1
  · obtain ⟨T, ys, hb, _, h2, h3⟩ := hS k hs
    rcases hk with hk | hk | hk
    · obtain ⟨c, hc⟩ := owns_typed h.o1 k hk
      exact h2 (hb.inj hc).1
    · obtain ⟨c, hc⟩ := owns_typed h.o2 k hk
      exact h3 (hb.inj hc).1
    · obtain ⟨c, hc⟩ := owns_typed h.o3 k hk
      exact h3 (hb.inj hc).1
/-- A step of a gate that may have turned blocks of other types. -/
theorem MadeAt.step {w w' : World} {B B' m : Nat} {rs fs xs : List Nat} {v1 v2 v3 : Value} (h : MadeAt TM w B m rs fs xs v1 v2 v3) {g : Option Nat} {ks ks' : List Int} {S : Nat → Prop} (hg : GAtI w B' g ks) (hs : StepI B' g w w' ks' S)
    (hM : TM ≠ TT ∧ TM ≠ ti) (hS : ∀ k, S k → ∃ T ys, Blk w k T ys ∧ T ≠ TM ∧ T ≠ TPR ∧ T ≠ TPX) : MadeAt TM w' B m rs fs xs v1 v2 v3 :=
  h.types hs.fr (fun k hk => by
    rcases hk with hk | hk
    · obtain ⟨_, _, T, c, hT, hb⟩ := hg.foot hk
      refine ⟨T, c, hb, ?_, ?_, ?_⟩
      · rintro rfl; rcases hT with h | h
        · exact hM.1 h
        · exact hM.2 h
      · rintro rfl; rcases hT with h | h <;> exact absurd h (by decide)
      · rintro rfl; rcases hT with h | h <;> exact absurd h (by decide)
    · exact hS k hk)
end
/-- An element of an owned row of pointers. -/
theorem owns_at {w : World} {B e : Nat} {v : Value} {l : List Nat} (h : w.ownsRow B e 1 v l.length (l.map fun b => pv (some b))) {j : Nat} (hj : j < l.length) :
    ∃ b c, v = .slice (some ⟨b, 0, none⟩) l.length c ∧ w.cell? ⟨b, j, none⟩ = some (pv l[j]?) := by
  have hn : ¬ v = .slice none 0 0 := fun e => by
    rcases h.2 with ⟨_, h0⟩ | ⟨g, cap, cur, hv, _⟩
    · omega
    · rw [e] at hv; simp at hv
  obtain ⟨b, c, rest, hv, _, _, hb⟩ := owns_blk h hn
  refine ⟨b, c, hv, ?_⟩
  rw [hb.cell, List.getElem?_append_left (by simpa using hj)]
  simp [List.getElem?_eq_getElem hj]

/-! ### one of the three lists grows -/
/-- An append's own block, and the struct's. -/
def Pushed (m : Nat) (v : Value) (k : Nat) : Prop := k = m ∨ some k = v.ownBlock
section
variable {TM : Nat} {w w1 : World} {B m b n e : Nat} {rs fs xs : List Nat} {v1 v2 v3 v' : Value}
theorem pushed_fr {w w1 : World} {m j : Nat} {v v' : Value} (hg : w.grownBy w1 v.ownBlock) : Fr w (w1.setCell ⟨m, j, none⟩ v') (Pushed m v) :=
  ((Fr.of_grown hg).mono (fun _ _ h => .inr h)).setCell _ _ (fun _ => .inl rfl)
/-- By types: what is none of TM and e stays. -/
theorem pushed_types {w : World} {m TM e n B : Nat} {v : Value} {us ms : List Value} (hm : Blk w m TM ms) (ho : w.ownsRow B e 1 v n us) {k : Nat} (hk : Pushed m v k) : ∃ T ys, Blk w k T ys ∧ (T = TM ∨ T = e) := by
  rcases hk with rfl | hk
  · exact ⟨_, _, hm, .inl rfl⟩
  · obtain ⟨c, hc⟩ := owns_typed ho k hk.symm
    exact ⟨_, _, hc, .inr rfl⟩
theorem owns_store {w : World} {B e n m j T : Nat} {v u : Value} {us ms : List Value} (h : w.ownsRow B e 1 v n us) (hm : Blk w m T ms) (hne : e ≠ T) : (w.setCell ⟨m, j, none⟩ u).ownsRow B e 1 v n us :=
  owns_fr h ((Fr.refl w (fun k => k = m)).setCell _ _ (fun _ => rfl)) (fun k hk e2 => by
    subst e2
    obtain ⟨c, hc⟩ := owns_typed h _ hk
    exact hne (hc.inj hm).1)
theorem owns_grown {w w1 : World} {B B' e e' n n' : Nat} {v u : Value} {us ys : List Value} (h : w.ownsRow B e 1 v n us) (hu : w.ownsRow B' e' 1 u n' ys) (hg : w.grownBy w1 u.ownBlock) (hne : e ≠ e') : w1.ownsRow B e 1 v n us :=
  owns_fr h (Fr.of_grown hg) (fun k hk e2 => by
    obtain ⟨c, hc⟩ := owns_typed h k hk
    obtain ⟨d, hd⟩ := owns_typed hu k e2.symm
    exact hne (hc.inj hd).1)
theorem MadeAt.push1 (h : MadeAt TM w B m rs fs xs v1 v2 v3) (hT : TM ≠ TPR ∧ TM ≠ TPX) (hg : w.grownBy w1 v1.ownBlock) (ho : w1.ownsRow B TPR 1 v' (rs.length + 1) ((rs.map fun b => pv (some b)) ++ [pv (some b)])) :
    MadeAt TM (w1.setCell ⟨m, 0, none⟩ v') B m (rs ++ [b]) fs xs v' v2 v3 := by
  have hm1 : Blk w1 m TM [v1, v2, v3] := (Fr.of_grown hg).blk h.blk (fun e => by
    obtain ⟨c, hc⟩ := owns_typed h.o1 m e.symm
    exact hT.1 (h.blk.inj hc).1)
  exact ⟨hm1.set 0 v', by simpa using owns_store ho hm1 hT.1.symm, owns_store (owns_grown h.o2 h.o1 hg (by decide)) hm1 hT.2.symm, owns_store (owns_grown h.o3 h.o1 hg (by decide)) hm1 hT.2.symm, h.ne⟩
theorem MadeAt.push2 (h : MadeAt TM w B m rs fs xs v1 v2 v3) (hT : TM ≠ TPR ∧ TM ≠ TPX) (hg : w.grownBy w1 v2.ownBlock) (ho : w1.ownsRow B TPX 1 v' (fs.length + 1) ((fs.map fun b => pv (some b)) ++ [pv (some b)]))
    (hat : v'.ownBlock = v2.ownBlock ∨ ∃ b, v'.ownBlock = some b ∧ w.heap.size ≤ b) : MadeAt TM (w1.setCell ⟨m, 1, none⟩ v') B m rs (fs ++ [b]) xs v1 v' v3 := by
  have hm1 : Blk w1 m TM [v1, v2, v3] := (Fr.of_grown hg).blk h.blk (fun e => by
    obtain ⟨c, hc⟩ := owns_typed h.o2 m e.symm
    exact hT.2 (h.blk.inj hc).1)
  refine ⟨hm1.set 1 v', owns_store (owns_grown h.o1 h.o2 hg (by decide)) hm1 hT.1.symm, by simpa using owns_store ho hm1 hT.2.symm, owns_store (owns_fr h.o3 (Fr.of_grown hg) (fun k hk e => h.ne k e.symm hk)) hm1 hT.2.symm, fun k hk hk3 => ?_⟩
  rcases hat with hat | ⟨c, hc, hle⟩
  · exact h.ne k (hat ▸ hk) hk3
  · have := (World.ownsRow.lt h.o3 k hk3).2
    rw [hc] at hk
    cases hk
    omega
theorem MadeAt.push3 (h : MadeAt TM w B m rs fs xs v1 v2 v3) (hT : TM ≠ TPR ∧ TM ≠ TPX) (hg : w.grownBy w1 v3.ownBlock) (ho : w1.ownsRow B TPX 1 v' (xs.length + 1) ((xs.map fun b => pv (some b)) ++ [pv (some b)]))
    (hat : v'.ownBlock = v3.ownBlock ∨ ∃ b, v'.ownBlock = some b ∧ w.heap.size ≤ b) : MadeAt TM (w1.setCell ⟨m, 2, none⟩ v') B m rs fs (xs ++ [b]) v1 v2 v' := by
  have hm1 : Blk w1 m TM [v1, v2, v3] := (Fr.of_grown hg).blk h.blk (fun e => by
    obtain ⟨c, hc⟩ := owns_typed h.o3 m e.symm
    exact hT.2 (h.blk.inj hc).1)
  refine ⟨hm1.set 2 v', owns_store (owns_grown h.o1 h.o3 hg (by decide)) hm1 hT.1.symm, owns_store (owns_fr h.o2 (Fr.of_grown hg) (fun k hk e => h.ne k hk e.symm)) hm1 hT.2.symm, by simpa using owns_store ho hm1 hT.2.symm, fun k hk hk3 => ?_⟩
  rcases hat with hat | ⟨c, hc, hle⟩
  · exact h.ne k hk (hat ▸ hk3)
  · have := (World.ownsRow.lt h.o2 k hk).2
    rw [hc] at hk3
    cases hk3
    omega
end
/-- What stands in memory, by numbers: of record i the fields F i, the info I i, the mark M i; of SCX-record i what P i tells. -/
structure Stage (w : World) (B : Nat) (R : Nat → Option RecO) (X : Nat → Option ScxO) (rs fs xs : List Nat) (F : Nat → List (Option Nat)) (I : Nat → Option Nat) (M : Nat → Bool) (P : Nat → ScxO → Prop) : Prop where
  rep : Repint w R X
  ndr : rs.Nodup
  ndx : (fs ++ xs).Nodup
  len : fs.length = rs.length
  r : ∀ (i b : Nat), rs[i]? = some b → ∃ fb, R b = some ⟨[.int .i64 (i : Int)], fb, F i, I i, M i⟩ ∧ B ≤ fb
  x : ∀ (i b : Nat), xs[i]? = some b → ∃ s, X b = some s ∧ P i s
  f : ∀ b, b ∈ fs → (X b).isSome
  lo : ∀ b, b ∈ rs ++ (fs ++ xs) → B ≤ b

theorem nodup_get {l : List Nat} (h : l.Nodup) {i j b : Nat} (hi : l[i]? = some b) (hj : l[j]? = some b) : i = j := by
  obtain ⟨h1, e1⟩ := List.getElem?_eq_some_iff.1 hi
  obtain ⟨h2, e2⟩ := List.getElem?_eq_some_iff.1 hj
  exact (List.getElem_inj h).1 (e1.trans e2.symm)
theorem get_append_one {α : Type} {l : List α} {a b : α} {i : Nat} (h : (l ++ [a])[i]? = some b) : l[i]? = some b ∨ (i = l.length ∧ a = b) := by
  rcases Nat.lt_or_ge i l.length with hi | hi
  · rw [List.getElem?_append_left hi] at h; exact .inl h
  · rw [List.getElem?_append_right hi] at h
    have : i - l.length = 0 := by
      rcases Nat.eq_zero_or_pos (i - l.length) with h0 | h0
      · exact h0
      · rw [List.getElem?_eq_none (by simp; omega)] at h; cases h
    rw [this] at h
    exact .inr ⟨by omega, by simpa using h⟩

section
variable {w w' : World} {B B' : Nat} {R : Nat → Option RecO} {X : Nat → Option ScxO} {rs fs xs : List Nat} {F : Nat → List (Option Nat)} {I : Nat → Option Nat} {M : Nat → Bool} {P : Nat → ScxO → Prop}
theorem Stage.rep' (h : Stage w B R X rs fs xs F I M P) (hr : Repint w' R X) : Stage w' B R X rs fs xs F I M P := ⟨hr, h.ndr, h.ndx, h.len, h.r, h.x, h.f, h.lo⟩
theorem Stage.below (h : Stage w B R X rs fs xs F I M P) (hb : Below w.heap.size w w') : Stage w' B R X rs fs xs F I M P := h.rep' (h.rep.below hb)
theorem Stage.cong (h : Stage w B R X rs fs xs F I M P) {F' : Nat → List (Option Nat)} {I' : Nat → Option Nat} {M' : Nat → Bool} {P' : Nat → ScxO → Prop} (h1 : ∀ i, i < rs.length → F i = F' i) (h2 : ∀ i, i < rs.length → I i = I' i) (h3 : ∀ i, i < rs.length → M i = M' i) (h4 : ∀ i s, i < xs.length → P i s → P' i s) :
    Stage w B R X rs fs xs F' I' M' P' :=
  ⟨h.rep, h.ndr, h.ndx, h.len, fun i b hb => by
    have hl := (List.getElem?_eq_some_iff.1 hb).1
    rw [← h1 i hl, ← h2 i hl, ← h3 i hl]; exact h.r i b hb, fun i b hb => by
    obtain ⟨s, hs, hp⟩ := h.x i b hb
    exact ⟨s, hs, h4 i s (List.getElem?_eq_some_iff.1 hb).1 hp⟩, h.f, h.lo⟩
theorem Stage.okR (h : Stage w B R X rs fs xs F I M P) (n : Int) : Ok R (rp rs n) := fun b e => by
  unfold rp at e
  split at e
  · cases e
  · obtain ⟨fb, hfb, _⟩ := h.r _ b e
    simp [hfb]
theorem Stage.okX (h : Stage w B R X rs fs xs F I M P) (n : Nat) : Ok X xs[n]? := fun b e => by
  obtain ⟨s, hs, _⟩ := h.x n b e
  simp [hs]
theorem Stage.okF (h : Stage w B R X rs fs xs F I M P) (n : Nat) : Ok X fs[n]? := fun b e => h.f b (List.mem_of_getElem? e)
/-- A new record. -/
theorem Stage.addRec (h : Stage w B R X rs fs xs F I M P) (hbelow : Below w.heap.size w w') {b fb xb : Nat} {ps : List (Option Nat)} (hb : w.heap.size ≤ b) (hfb : w.heap.size ≤ fb) (hxb : w.heap.size ≤ xb) (hB : B ≤ w.heap.size)
    (hrep : Repint w' (upd R b ⟨[.int .i64 (rs.length : Int)], fb, ps, some xb, false⟩) (upd X xb firstO)) (hF : F rs.length = ps) (hI : I rs.length = some xb) (hM : M rs.length = false) :
    Stage w' B (upd R b ⟨[.int .i64 (rs.length : Int)], fb, ps, some xb, false⟩) (upd X xb firstO) (rs ++ [b]) (fs ++ [xb]) xs F I M P := by
  have hr1 : ∀ c ∈ rs, c < w.heap.size := fun c hc => by
    obtain ⟨i, hi⟩ := List.getElem?_of_mem hc
    obtain ⟨_, hfb, _⟩ := h.r i c hi
    exact (h.rep.recs _ _ hfb).1.lt
  have hx1 : ∀ c, (X c).isSome → c < w.heap.size := fun c hc => by
    obtain ⟨s, hs⟩ := Option.isSome_iff_exists.1 hc
    exact (h.rep.scx _ _ hs).lt
  have hx2 : ∀ c ∈ fs ++ xs, c < w.heap.size := fun c hc => by
    rcases List.mem_append.1 hc with hc | hc
    · exact hx1 c (h.f c hc)
    · obtain ⟨i, hi⟩ := List.getElem?_of_mem hc
      obtain ⟨s, hs, _⟩ := h.x i c hi
      exact (h.rep.scx _ _ hs).lt
  refine ⟨hrep, ?_, ?_, by simp [h.len], fun i c hc => ?_, fun i c hc => ?_, fun c hc => ?_, fun c hc => ?_⟩
  · rw [List.nodup_append]
    exact ⟨h.ndr, by simp, fun a ha c hc => by simp at hc; have := hr1 a ha; omega⟩
  · have hp : ((fs ++ xs) ++ [xb]).Nodup := by
      rw [List.nodup_append]
      exact ⟨h.ndx, by simp, fun a ha c hc => by simp at hc; have := hx2 a ha; omega⟩
    have : ((fs ++ [xb]) ++ xs).Perm ((fs ++ xs) ++ [xb]) := by
      rw [List.append_assoc, List.append_assoc]
      exact List.Perm.append_left fs List.perm_append_comm
    exact this.nodup_iff.2 hp
  · rcases get_append_one hc with hc | ⟨rfl, rfl⟩
    · obtain ⟨fb', h1, h2⟩ := h.r i c hc
      refine ⟨fb', ?_, h2⟩
      rw [upd_ne _ _ (by have := hr1 c (List.mem_of_getElem? hc); omega)]
      exact h1
    · rw [hF, hI, hM]
      exact ⟨fb, upd_self _ _ _, by omega⟩
  · obtain ⟨s, hs, hp⟩ := h.x i c hc
    exact ⟨s, by rw [upd_ne _ _ (by have := (h.rep.scx _ _ hs).lt; omega)]; exact hs, hp⟩
  · rcases List.mem_append.1 hc with hc | hc
    · rw [upd_ne _ _ (by have := hx1 c (h.f c hc); omega)]; exact h.f c hc
    · simp at hc; subst hc; simp [upd]
  · simp only [List.mem_append, List.mem_singleton] at hc
    rcases hc with (hc | hc) | (hc | hc) | hc
    · exact h.lo c (by simp [hc])
    · omega
    · exact h.lo c (by simp [hc])
    · omega
    · exact h.lo c (by simp [hc])
/-- A new SCX-record. -/
theorem Stage.addScx (h : Stage w B R X rs fs xs F I M P) (hbelow : Below w.heap.size w w') {b : Nat} {s : ScxO} (hb : w.heap.size ≤ b) (hB : B ≤ w.heap.size) (hrep : Repint w' R (upd X b s)) (hP : P xs.length s) :
    Stage w' B R (upd X b s) rs fs (xs ++ [b]) F I M P := by
  have hx1 : ∀ c, (X c).isSome → c < w.heap.size := fun c hc => by
    obtain ⟨s, hs⟩ := Option.isSome_iff_exists.1 hc
    exact (h.rep.scx _ _ hs).lt
  have hx2 : ∀ c ∈ fs ++ xs, c < w.heap.size := fun c hc => by
    rcases List.mem_append.1 hc with hc | hc
    · exact hx1 c (h.f c hc)
    · obtain ⟨i, hi⟩ := List.getElem?_of_mem hc
      obtain ⟨s, hs, _⟩ := h.x i c hi
      exact (h.rep.scx _ _ hs).lt
  refine ⟨hrep, h.ndr, ?_, h.len, h.r, fun i c hc => ?_, fun c hc => ?_, fun c hc => ?_⟩
  · rw [← List.append_assoc, List.nodup_append]
    exact ⟨h.ndx, by simp, fun a ha c hc => by simp at hc; have := hx2 a ha; omega⟩
  · rcases get_append_one hc with hc | ⟨rfl, rfl⟩
    · obtain ⟨s', hs, hp⟩ := h.x i c hc
      exact ⟨s', by rw [upd_ne _ _ (by have := (h.rep.scx _ _ hs).lt; omega)]; exact hs, hp⟩
    · exact ⟨s, upd_self _ _ _, hP⟩
  · rw [upd_ne _ _ (by have := hx1 c (h.f c hc); omega)]; exact h.f c hc
  · simp only [List.mem_append, List.mem_singleton] at hc
    rcases hc with hc | hc | hc | hc
    · exact h.lo c (by simp [hc])
    · exact h.lo c (by simp [hc])
    · exact h.lo c (by simp [hc])
    · omega
/-- Record i has turned. -/
theorem Stage.setRec (h : Stage w B R X rs fs xs F I M P) {i b fb : Nat} (hi : rs[i]? = some b) (ho : R b = some ⟨[.int .i64 (i : Int)], fb, F i, I i, M i⟩) {fl : List (Option Nat)} {inf : Option Nat} {mk : Bool}
    (hrep : Repint w' (upd R b ⟨[.int .i64 (i : Int)], fb, fl, inf, mk⟩) X) :
    Stage w' B (upd R b ⟨[.int .i64 (i : Int)], fb, fl, inf, mk⟩) X rs fs xs (fun k => if k = i then fl else F k) (fun k => if k = i then inf else I k) (fun k => if k = i then mk else M k) P := by
  refine ⟨hrep, h.ndr, h.ndx, h.len, fun k c hc => ?_, h.x, h.f, h.lo⟩
  by_cases e : k = i
  · subst e
    have : c = b := by rw [hi] at hc; exact (Option.some.inj hc).symm
    subst this
    obtain ⟨fb', h1, h2⟩ := h.r k c hi
    rw [ho] at h1
    have : fb = fb' := by simpa using congrArg RecO.fb (Option.some.inj h1)
    subst this
    exact ⟨fb, by simp [upd], h2⟩
  · obtain ⟨fb', h1, h2⟩ := h.r k c hc
    refine ⟨fb', ?_, h2⟩
    have : c ≠ b := fun e2 => by subst e2; exact e (nodup_get h.ndr hc hi)
    rw [upd_ne _ _ this]
    simp [e, h1]
/-- SCX-record i has turned. -/
theorem Stage.setScx (h : Stage w B R X rs fs xs F I M P) {i b : Nat} (hi : xs[i]? = some b) {s : ScxO} (hrep : Repint w' R (upd X b s)) {P' : Nat → ScxO → Prop} (hP : P' i s) (hP' : ∀ k s, k ≠ i → P k s → P' k s) :
    Stage w' B R (upd X b s) rs fs xs F I M P' := by
  have hnd := List.nodup_append.1 h.ndx
  refine ⟨hrep, h.ndr, h.ndx, h.len, h.r, fun k c hc => ?_, fun c hc => ?_, h.lo⟩
  · by_cases e : k = i
    · subst e
      have : c = b := by rw [hi] at hc; exact (Option.some.inj hc).symm
      subst this
      exact ⟨s, upd_self _ _ _, hP⟩
    · obtain ⟨s', h1, h2⟩ := h.x k c hc
      refine ⟨s', ?_, hP' k s' e h2⟩
      rw [upd_ne _ _ (fun e2 => by subst e2; exact e (nodup_get hnd.2.1 hc hi))]
      exact h1
  · have := h.f c hc
    unfold upd
    split <;> simp_all
end
end Go.Proofs.Ytphhdmopfmelbaa

/-
  A world as plain data: what it is as a value, how it reads. No walk.
-/
namespace Go.Proofs.Ytphhdmopfmelbaa
open Go.RowKit Go.Proofs.YtphhdmopfmelbaaW.PrintWords
set_option linter.unusedVariables false
set_option linter.unusedSimpArgs false

/-- A world as lists. -/
structure WD where
  fields : List (List Int)
  infos : List Int
  marks : List Bool
  states : List Int
  frozen : List Bool
/-- Its five slices. -/
structure WV where
  A0 : Option Addr
  c0 : Nat
  A1 : Option Addr
  c1 : Nat
  A2 : Option Addr
  c2 : Nat
  A3 : Option Addr
  c3 : Nat
  A4 : Option Addr
  c4 : Nat
abbrev WV.cells (v : WV) (d : WD) : List Value := [.slice v.A0 d.fields.length v.c0, .slice v.A1 d.infos.length v.c1, .slice v.A2 d.marks.length v.c2, .slice v.A3 d.states.length v.c3, .slice v.A4 d.frozen.length v.c4]
abbrev WV.val (v : WV) (d : WD) : Value := .agg #[.slice v.A0 d.fields.length v.c0, .slice v.A1 d.infos.length v.c1, .slice v.A2 d.marks.length v.c2, .slice v.A3 d.states.length v.c3, .slice v.A4 d.frozen.length v.c4]
abbrev KInt := Kd.int .i64
abbrev KRow := Kd.slice 3 (Kd.int .i64)
structure WV.Reads (w : World) (v : WV) (d : WD) : Prop where
  h0 : KRow.C w v.A0 d.fields.length d.fields
  k0 : d.fields.length ≤ v.c0
  h1 : KInt.C w v.A1 d.infos.length d.infos
  k1 : d.infos.length ≤ v.c1
  h2 : Kd.bool.C w v.A2 d.marks.length d.marks
  k2 : d.marks.length ≤ v.c2
  h3 : KInt.C w v.A3 d.states.length d.states
  k3 : d.states.length ≤ v.c3
  h4 : Kd.bool.C w v.A4 d.frozen.length d.frozen
  k4 : d.frozen.length ≤ v.c4
theorem WV.Reads.below {w w' : World} {v : WV} {d : WD} (h : v.Reads w d) (hb : Below w.heap.size w w') : v.Reads w' d :=
  ⟨Kd.C_below h.h0 hb, h.k0, Kd.C_below h.h1 hb, h.k1, Kd.C_below h.h2 hb, h.k2, Kd.C_below h.h3 hb, h.k3, Kd.C_below h.h4 hb, h.k4⟩

/-- Rows of one-cell elements as my own word has it. -/
theorem row1_of_C {α : Type} {enc : α → Value} {h1 : ∀ x, (enc x).oneCell' = true} {w : World} {A : Option Addr} {n : Nat} {xs : List α} (h : (Kd.scalar enc h1).C w A n xs) : Row1 w A n (xs.map enc) := by
  refine ⟨by simpa using h.1, fun hn => ?_⟩
  obtain ⟨ad, e, hc⟩ := h.2.2 hn
  refine ⟨ad, e, fun j u hu => ?_⟩
  rw [List.getElem?_map] at hu
  obtain ⟨x, hx, rfl⟩ := Option.map_eq_some_iff.1 hu
  obtain ⟨c, _, hK, hcell⟩ := hc j x hx
  have hK' : c = [enc x] := hK
  subst hK'
  simpa [Kd.scalar] using hcell 0 _ rfl
theorem int_at {w : World} {A : Option Addr} {n : Nat} {xs : List Int} (h : KInt.C w A n xs) {j : Nat} (hj : j < xs.length) : ∃ ad, A = some ad ∧ w.cell? (ad.add j) = some (.int .i64 xs[j]) :=
  (row1_of_C h).at_ (by simp [List.getElem?_eq_getElem hj])
theorem bool_at {w : World} {A : Option Addr} {n : Nat} {xs : List Bool} (h : Kd.bool.C w A n xs) {j : Nat} (hj : j < xs.length) : ∃ ad, A = some ad ∧ w.cell? (ad.add j) = some (.bool xs[j]) :=
  (row1_of_C h).at_ (by simp [List.getElem?_eq_getElem hj])
theorem row_at {w : World} {A : Option Addr} {n : Nat} {xs : List (List Int)} (h : KRow.C w A n xs) {j : Nat} (hj : j < xs.length) :
    ∃ ad, A = some ad ∧ ∃ A' c', w.cell? (ad.add j) = some (.slice A' xs[j].length c') ∧ xs[j].length ≤ c' ∧ KInt.C w A' xs[j].length xs[j] := by
  obtain ⟨ad, e, hc⟩ := h.2.2 (by have := h.1; omega)
  obtain ⟨c, _, ⟨A', c', hK, hl, hr⟩, hcell⟩ := hc j _ (List.getElem?_eq_getElem hj)
  subst hK
  refine ⟨ad, e, A', c', ?_, hl, hr⟩
  simpa [Kd.slice] using hcell 0 _ rfl
end Go.Proofs.Ytphhdmopfmelbaa
