/- Joined texts: Base Gate Cell Heap. -/
import Derived.WalkKit
import Derived.WalkSpells
import Derived.WalkLawsBesides
import Derived.Test.YteeficpjggimcaaWMore
import Derived.Test.YteeficpjggimcaaRows
import Derived.Deep.RegionWith

/-
  Plain facts on blocks of memory: what a block holds, which blocks a step may have written, a tape that notes numbers. No program in sight.
-/
namespace Go.Proofs.Yteeficpjggimcaa
open Go.RowKit

/-- The post behind a letter: the walk can't look into it. -/
theorem calls_hide {P : Program} {f : FuncId} {args : Array Value} {w : World} {R : Ending → World → Prop} (h : ∀ Q : Ending → World → Prop, (∀ e w', R e w' → Q e w') → Calls P f args w Q) : Calls P f args w R := h R (fun _ _ x => x)

theorem calls_swap {P : Program} {f : FuncId} {args : Array Value} {w : World} {v : Value} (h : Calls P f args w fun e w' => e = .returned v ∧ w = w') : Calls P f args w fun e w' => e = .returned v ∧ w' = w := h.mono fun _ _ h => ⟨h.1, h.2.symm⟩

/-- Block b is a row of the cells xs of element type T, none frozen. -/
def Blk (w : World) (b : Nat) (T : TypeId) (xs : List Value) : Prop := w.heap[b]? = some (.cells xs.toArray T (0, 0))

section
variable {w w' : World} {b T : Nat} {xs : List Value}
theorem Blk.lt (h : Blk w b T xs) : b < w.heap.size := (Array.getElem?_eq_some_iff.1 h).1
theorem Blk.cell (h : Blk w b T xs) (i : Nat) : w.cell? ⟨b, i, none⟩ = xs[i]? := by
  rw [cell_of_row w b i xs.toArray T (0, 0) h]; simp
theorem Blk.free (h : Blk w b T xs) (a : Addr) (ha : a.block = b) : w.frozen? a = false := by
  subst ha
  unfold World.frozen?
  have h' : w.heap[a.block]? = _ := h
  rw [h']; simp
theorem Blk.same (h : Blk w b T xs) (hs : w'.heap[b]? = w.heap[b]?) : Blk w' b T xs := hs.trans h
theorem Blk.set (h : Blk w b T xs) (i : Nat) (v : Value) : Blk (w.setCell ⟨b, i, none⟩ v) b T (xs.set i v) := by
  have h' : w.heap[b]? = _ := h
  simp [Blk, World.setCell, Array.getElem?_modify, h', List.setIfInBounds_toArray]
theorem Blk.other (h : Blk w b T xs) (a : Addr) (v : Value) (hne : b ≠ a.block) : Blk (w.setCell a v) b T xs :=
  h.same (Below.heap_setCell w a v b hne)
theorem Blk.alloc (h : Blk w b T xs) (o : Obj) : Blk (w.alloc o) b T xs := h.same (Below.heap_alloc w o b h.lt)
theorem Blk.new (w : World) (T : Nat) (xs : List Value) : Blk (w.alloc (.cells xs.toArray T)) w.heap.size T xs := heap_alloc_new w _
theorem Blk.drew (h : Blk w b T xs) : Blk w.drew b T xs := h
theorem Blk.inj {T' : Nat} {ys : List Value} (h : Blk w b T xs) (k : Blk w b T' ys) : T = T' ∧ xs = ys := by
  have := (Option.some.inj (h.symm.trans k))
  injection this with h1 h2
  exact ⟨h2, by simpa using congrArg Array.toList h1⟩
theorem Blk.below (h : Blk w b T xs) {B : Nat} (hb : Below B w w') (hB : b < B) : Blk w' b T xs := h.same (hb.block b hB)
end

/-- From w to w': of w's blocks none but S may have turned; the streams are as they were. -/
structure Fr (w w' : World) (S : Nat → Prop) : Prop where
  os : w'.os = w.os
  tape : w'.tape = w.tape
  output : w'.output = w.output
  size : w.heap.size ≤ w'.heap.size
  block : ∀ k, k < w.heap.size → ¬ S k → w'.heap[k]? = w.heap[k]?

section
variable {a b c w w' : World} {S S' : Nat → Prop}
theorem Fr.refl (w : World) (S : Nat → Prop) : Fr w w S := ⟨rfl, rfl, rfl, Nat.le_refl _, fun _ _ _ => rfl⟩
theorem Fr.mono (h : Fr a b S) (hs : ∀ k, k < a.heap.size → S k → S' k) : Fr a b S' :=
  ⟨h.os, h.tape, h.output, h.size, fun k hk hn => h.block k hk (fun s => hn (hs k hk s))⟩
theorem Fr.trans (h : Fr a b S) (k : Fr b c S') (hs : ∀ i, i < a.heap.size → S' i → S i) : Fr a c S :=
  ⟨k.os.trans h.os, k.tape.trans h.tape, k.output.trans h.output, Nat.le_trans h.size k.size,
    fun i hi hn => (k.block i (Nat.lt_of_lt_of_le hi h.size) (fun s => hn (hs i hi s))).trans (h.block i hi hn)⟩
theorem Fr.below (h : Fr a b S) {B : Nat} (hB : B ≤ a.heap.size) (hs : ∀ k, S k → B ≤ k) : Below B a b :=
  ⟨h.os, h.tape, h.output, h.size, fun k hk => h.block k (by omega) (fun s => by have := hs k s; omega)⟩
theorem Fr.of_below {B : Nat} (h : Below B a b) : Fr a b (fun k => B ≤ k) :=
  ⟨h.os, h.tape, h.output, h.size, fun k _ hn => h.block k (by omega)⟩
theorem Fr.of_below0 (h : Below a.heap.size a b) : Fr a b S :=
  ⟨h.os, h.tape, h.output, h.size, fun k hk _ => h.block k hk⟩
theorem Fr.of_grown {row : Option Nat} (h : a.grownBy b row) : Fr a b (fun k => some k = row) :=
  ⟨h.os, h.tape, h.output, h.size, fun k hk hn => h.block k hk hn⟩
theorem Fr.alloc (h : Fr a b S) (o : Obj) : Fr a (b.alloc o) S :=
  h.trans (S' := fun _ => False) ⟨rfl, rfl, rfl, by simp, fun k hk _ => Below.heap_alloc _ _ _ hk⟩ (fun _ _ s => s.elim)
theorem Fr.drew (h : Fr a b S) : Fr a b.drew S := ⟨h.os, h.tape, h.output, h.size, h.block⟩
theorem Fr.setCell (h : Fr a b S) (p : Addr) (u : Value) (hp : p.block < a.heap.size → S p.block) : Fr a (b.setCell p u) S :=
  h.trans (S' := fun k => k = p.block) ⟨rfl, rfl, rfl, by simp [World.setCell], fun k _ hn => Below.heap_setCell _ _ _ _ hn⟩ (fun i hi s => by subst s; exact hp hi)
theorem Fr.blk (h : Fr a b S) {k T : Nat} {xs : List Value} (hb : Blk a k T xs) (hn : ¬ S k) : Blk b k T xs := hb.same (h.block k hb.lt hn)
end

/-! ### A slice that the call owns -/
theorem owns_fr {w w' : World} {base : Nat} {e : TypeId} {size n : Nat} {v : Value} {xs : List Value} {S : Nat → Prop} (h : w.ownsRow base e size v n xs) (hf : Fr w w' S)
    (hn : ∀ k, v.ownBlock = some k → ¬ S k) : w'.ownsRow base e size v n xs :=
  Go.Proofs.YteeficpjggimcaaW.PrintWords.own_move h (fun k hk => hf.block k (World.ownsRow.lt h k hk).2 (hn k hk))
theorem owns_typed {w : World} {base : Nat} {e : TypeId} {size n : Nat} {v : Value} {xs : List Value} (h : w.ownsRow base e size v n xs) (k : Nat) (hk : v.ownBlock = some k) :
    ∃ cells, Blk w k e cells := by
  obtain ⟨cells, hc⟩ := Go.Proofs.YteeficpjggimcaaW.PrintWords.own_typed h k hk
  exact ⟨cells.toList, by simpa [Blk] using hc⟩

/-! ### A tape: a block of one cell, a slice of numbers that the call owns. TT: the tape's type; 'ti': int's. -/
def TapeAt (TT ti : Nat) (w : World) (B t : Nat) (ks : List Int) : Prop :=
  ∃ v, B ≤ t ∧ Blk w t TT [v] ∧ w.ownsRow B ti 1 v ks.length (ks.map (Value.int .i64)) ∧ v.ownBlock ≠ some t
/-- The tape's own blocks. -/
def TFoot (w : World) (t k : Nat) : Prop := k = t ∨ ∃ v, w.cell? ⟨t, 0, none⟩ = some v ∧ v.ownBlock = some k

theorem TapeAt.foot {TT ti : Nat} {w : World} {B t : Nat} {ks : List Int} (h : TapeAt TT ti w B t ks) {k : Nat} (hk : TFoot w t k) :
    B ≤ k ∧ k < w.heap.size ∧ ∃ T cells, (T = TT ∨ T = ti) ∧ Blk w k T cells := by
  obtain ⟨v, hB, hb, ho, _⟩ := h
  rcases hk with rfl | ⟨v', hv', hk⟩
  · exact ⟨hB, hb.lt, _, _, .inl rfl, hb⟩
  · have : v' = v := by rw [hb.cell 0] at hv'; simpa using hv'.symm
    subst this
    obtain ⟨cells, hc⟩ := owns_typed ho k hk
    exact ⟨(World.ownsRow.lt ho k hk).1, hc.lt, _, _, .inr rfl, hc⟩
theorem TapeAt.fr {TT ti : Nat} {w w' : World} {B t : Nat} {ks : List Int} {S : Nat → Prop} (h : TapeAt TT ti w B t ks) (hf : Fr w w' S) (hn : ∀ k, TFoot w t k → ¬ S k) :
    TapeAt TT ti w' B t ks ∧ ∀ k, TFoot w' t k ↔ TFoot w t k := by
  obtain ⟨v, hB, hb, ho, hne⟩ := h
  have hb' := hf.blk hb (hn t (.inl rfl))
  have hv : w.cell? ⟨t, 0, none⟩ = some v := by rw [hb.cell 0]; rfl
  have hv' : w'.cell? ⟨t, 0, none⟩ = some v := by rw [hb'.cell 0]; rfl
  refine ⟨⟨v, hB, hb', owns_fr ho hf (fun k hk => hn k (.inr ⟨v, hv, hk⟩)), hne⟩, fun k => ?_⟩
  unfold TFoot
  rw [hv, hv']

/-! ### A gate: nil, or a tape -/
def gv (tp : Nat) : Option Nat → Value
  | none => .nilIface
  | some t => .iface tp (.pointer (some ⟨t, 0, none⟩))
def GAt (TT ti : Nat) (w : World) (B : Nat) (g : Option Nat) (ks : List Int) : Prop := ∀ t, g = some t → TapeAt TT ti w B t ks
def GFoot (w : World) (g : Option Nat) (k : Nat) : Prop := ∃ t, g = some t ∧ TFoot w t k

/-- From w to w' the gate has been passed: it has noted what makes ks' out of ks; beside the gate's own blocks S alone may have turned. -/
structure Step (TT ti B : Nat) (g : Option Nat) (w w' : World) (ks' : List Int) (S : Nat → Prop) : Prop where
  gate : GAt TT ti w' B g ks'
  fr : Fr w w' (fun k => GFoot w g k ∨ S k)
  new : ∀ k, GFoot w' g k → GFoot w g k ∨ w.heap.size ≤ k

section
variable {TT ti B : Nat} {g : Option Nat} {w w1 w2 w' : World} {ks ks1 ks2 ks' : List Int} {S S' : Nat → Prop}
theorem GAt.foot (h : GAt TT ti w B g ks) {k : Nat} (hk : GFoot w g k) : B ≤ k ∧ k < w.heap.size ∧ ∃ T cells, (T = TT ∨ T = ti) ∧ Blk w k T cells := by
  obtain ⟨t, ht, hf⟩ := hk
  exact (h t ht).foot hf
theorem GAt.apart (h : GAt TT ti w B g ks) {b T : Nat} {xs : List Value} (hb : Blk w b T xs) (h1 : T ≠ TT) (h2 : T ≠ ti) : ¬ GFoot w g b := fun hk => by
  obtain ⟨_, _, T', cells, hT, hb'⟩ := h.foot hk
  have := (hb.inj hb').1
  rcases hT with rfl | rfl <;> contradiction
theorem GAt.nil (TT ti : Nat) (w : World) (B : Nat) (ks : List Int) : GAt TT ti w B none ks := fun t h => by cases h
theorem GAt.fr (h : GAt TT ti w B g ks) (hf : Fr w w' S) (hn : ∀ k, GFoot w g k → ¬ S k) : Step TT ti B g w w' ks S :=
  ⟨fun t ht => ((h t ht).fr hf (fun k hk => hn k ⟨t, ht, hk⟩)).1, hf.mono (fun _ _ s => .inr s),
    fun k ⟨t, ht, hk⟩ => .inl ⟨t, ht, (((h t ht).fr hf (fun k hk => hn k ⟨t, ht, hk⟩)).2 k).1 hk⟩⟩
theorem Step.refl (h : GAt TT ti w B g ks) (S : Nat → Prop) : Step TT ti B g w w ks S := ⟨h, Fr.refl _ _, fun _ hk => .inl hk⟩
theorem Step.trans (h : Step TT ti B g w w1 ks1 S) (k : Step TT ti B g w1 w2 ks2 S') (hs : ∀ i, i < w.heap.size → S' i → S i) : Step TT ti B g w w2 ks2 S :=
  ⟨k.gate, h.fr.trans k.fr (fun i hi hx => by
      rcases hx with hx | hx
      · rcases h.new i hx with hx | hx
        · exact .inl hx
        · omega
      · exact .inr (hs i hi hx)),
    fun i hi => by
      rcases k.new i hi with hx | hx
      · exact h.new i hx
      · exact .inr (Nat.le_trans h.fr.size hx)⟩
theorem Step.mono (h : Step TT ti B g w w' ks' S) (hs : ∀ k, k < w.heap.size → S k → S' k) : Step TT ti B g w w' ks' S' :=
  ⟨h.gate, h.fr.mono (fun k hk => Or.imp id (hs k hk)), h.new⟩
/-- What is neither the gate's nor S's stays. -/
theorem Step.blk (h : Step TT ti B g w w' ks' S) (hg : GAt TT ti w B g ks) {b T : Nat} {xs : List Value} (hb : Blk w b T xs) (h1 : T ≠ TT) (h2 : T ≠ ti) (hn : ¬ S b) : Blk w' b T xs :=
  h.fr.blk hb (fun hx => hx.elim (hg.apart hb h1 h2) hn)
theorem Step.below (h : Step TT ti B g w w' ks' S) (hg : GAt TT ti w B g ks) (hB : B ≤ w.heap.size) (hs : ∀ k, S k → B ≤ k) : Below B w w' :=
  h.fr.below hB (fun k hk => hk.elim (fun hx => (hg.foot hx).1) (hs k))
theorem GAt.below0 (h : GAt TT ti w B g ks) (hb : Below w.heap.size w w') (S : Nat → Prop) : Step TT ti B g w w' ks S :=
  (h.fr (S := fun _ => False) (Fr.of_below0 hb) (fun _ _ hx => hx)).mono (fun _ _ hx => hx.elim)
end

theorem Step.fr0 {TT ti B : Nat} {w w' : World} {ks' : List Int} {S : Nat → Prop} (h : Step TT ti B none w w' ks' S) : Fr w w' S :=
  h.fr.mono (fun _ _ hx => hx.elim (fun ⟨_, e, _⟩ => by cases e) id)
/-! ### make([]T, n), T of one cell that begins as nil -/
def nils (n : Nat) : Array Value := (List.replicate n (.pointer none)).toArray
theorem nils_blk (w : World) (E n : Nat) : Blk (w.alloc (.cells (nils n) E)) w.heap.size E (List.replicate n (.pointer none)) := Blk.new w E _
theorem run_make_nils {P : Program} {t e : TypeId} {z : Value} {by_ : Nat} (ht : P.underlying t = some (.slice e)) (hinfo : (P.info? e).map (fun i => (i.zero, i.size, i.bytes)) = some (some z, 1, by_)) (hz : z.cells = #[.pointer none])
    (n : Nat) (hb : by_ * n ≤ 281474976710656) (h63 : n ≤ 9223372036854775807) (w : World) :
    (Instr.makeSlice t (.int .i64 (n : Int)) (.int .i64 (n : Int))).run P w = .ok (.slice (some ⟨w.heap.size, 0, none⟩) n n) (w.alloc (.cells (nils n) e)) := by
  obtain ⟨i, hi, hzz⟩ := Option.map_eq_some_iff.1 hinfo
  simp only [Prod.mk.injEq] at hzz
  obtain ⟨hz0, hs, hbb⟩ := hzz
  have hb' : (i.bytes : Int) * (n : Int) ≤ 281474976710656 := by
    rw [hbb]
    have h : ((by_ * n : Nat) : Int) ≤ 281474976710656 := by omega
    rwa [Int.natCast_mul] at h
  have hr := run_make (P := P) w t e i z ht hi hz0 .i64 .i64 n n (by omega) (Int.le_refl _) hb' (by omega)
  rw [hr]
  simp only [Int.toNat_natCast, hs, Nat.mul_one, hz]
  congr 2
  have : madeCells #[.pointer none] n = nils n := by
    apply Array.toList_inj.1
    rw [toList_madeCells_one]
    simp [nils]
  rw [this]

/-! ### Rows of one-cell elements that are read -/
/-- The slice A, n long, holds the cells us. -/
def Row1 (w : World) (A : Option Addr) (n : Nat) (us : List Value) : Prop :=
  us.length = n ∧ (0 < n → ∃ ad, A = some ad ∧ ∀ j u, us[j]? = some u → w.cell? (ad.add j) = some u)
theorem Row1.nil (w : World) : Row1 w none 0 [] := ⟨rfl, fun h => absurd h (Nat.lt_irrefl 0)⟩
theorem Row1.below {w w' : World} {A : Option Addr} {n : Nat} {us : List Value} (h : Row1 w A n us) (hb : Below w.heap.size w w') : Row1 w' A n us :=
  ⟨h.1, fun hn => let ⟨ad, e, hc⟩ := h.2 hn; ⟨ad, e, fun j u hu => Go.Proofs.YteeficpjggimcaaW.PrintWords.pw_cell_below hb (hc j u hu)⟩⟩
theorem Row1.of_blk {w : World} {b T : Nat} {us rest : List Value} (h : Blk w b T (us ++ rest)) : Row1 w (some ⟨b, 0, none⟩) us.length us :=
  ⟨rfl, fun _ => ⟨_, rfl, fun j u hu => by
    have hadd : (⟨b, 0, none⟩ : Addr).add j = ⟨b, j, none⟩ := by unfold Addr.add; split <;> simp_all
    rw [hadd, h.cell j, List.getElem?_append_left (List.getElem?_eq_some_iff.1 hu).1]
    exact hu⟩⟩
theorem Row1.at_ {w : World} {A : Option Addr} {n : Nat} {us : List Value} (h : Row1 w A n us) {j : Nat} {u : Value} (hu : us[j]? = some u) : ∃ ad, A = some ad ∧ w.cell? (ad.add j) = some u := by
  have := (List.getElem?_eq_some_iff.1 hu).1
  obtain ⟨ad, e, hc⟩ := h.2 (by have := h.1; omega)
  exact ⟨ad, e, hc j u hu⟩
/-- Out of a row that the call owns. -/
theorem owns_blk {w : World} {base e n : Nat} {v : Value} {us : List Value} (h : w.ownsRow base e 1 v n us) (hn : ¬ v = .slice none 0 0) : ∃ b c rest, v = .slice (some ⟨b, 0, none⟩) n c ∧ base ≤ b ∧ n ≤ c ∧ Blk w b e (us ++ rest) := by
  obtain ⟨h1, h2⟩ := h
  rcases h2 with ⟨rfl, _⟩ | ⟨g, cap, cur, rfl, hg, hh, hc, _, _, ht⟩
  · exact absurd rfl hn
  · refine ⟨g, cap, cur.toList.drop (n * 1), rfl, hg, hc, ?_⟩
    rw [← ht, List.take_append_drop]
    simpa [Blk] using hh
theorem owns_slice {w : World} {base e n : Nat} {v : Value} {us : List Value} (h : w.ownsRow base e 1 v n us) : ∃ A c, v = .slice A n c ∧ Row1 w A n us ∧ n ≤ c := by
  rcases h.2 with ⟨hv, hn⟩ | ⟨g, cap, cur, hv, _⟩
  · subst hv; subst hn
    have : us = [] := List.eq_nil_of_length_eq_zero (by have := h.1; omega)
    subst this
    exact ⟨none, 0, rfl, Row1.nil w, Nat.le_refl _⟩
  · obtain ⟨b, c, rest, hv', _, hc, hb⟩ := owns_blk h (by rw [hv]; simp)
    have hl : us.length = n := by have := h.1; omega
    refine ⟨_, c, hv', ?_, hc⟩
    rw [← hl]
    exact Row1.of_blk hb

/-! ### Pointers to the heads of blocks -/
/-- A pointer to the head of a block, or nil. -/
def hd (x : Option Nat) : Option Addr := x.map fun b => ⟨b, 0, none⟩
abbrev pv (x : Option Nat) : Value := .pointer (hd x)
theorem hd_inj {x y : Option Nat} (h : hd x = hd y) : x = y := by
  cases x <;> cases y <;> simp [hd] at h ⊢; exact h
/-- What x leads to is a block of cells. -/
def Known (w : World) (x : Option Nat) : Prop := ∀ b, x = some b → ∃ T xs, Blk w b T xs
theorem Known.none (w : World) : Known w none := fun _ h => by cases h
theorem Known.fr {w w' : World} {S : Nat → Prop} {x : Option Nat} (h : Known w x) (hf : Fr w w' S) (hn : ∀ b, x = some b → ¬ S b) : Known w' x := fun b e => by
  obtain ⟨T, xs, hb⟩ := h b e
  exact ⟨T, xs, hf.blk hb (hn b e)⟩
/-- What x leads to is a block of cells that is none of a tape's, by its type. -/
def Kn (TT ti : Nat) (w : World) (x : Option Nat) : Prop := ∀ b, x = some b → ∃ T xs, Blk w b T xs ∧ T ≠ TT ∧ T ≠ ti
theorem Kn.known {TT ti : Nat} {w : World} {x : Option Nat} (h : Kn TT ti w x) : Known w x := fun b e => let ⟨T, xs, hb, _⟩ := h b e; ⟨T, xs, hb⟩
theorem Kn.none (TT ti : Nat) (w : World) : Kn TT ti w none := fun _ h => by cases h
theorem Kn.step {TT ti B : Nat} {g : Option Nat} {w w' : World} {ks ks' : List Int} {x : Option Nat} (h : Kn TT ti w x) (hg : GAt TT ti w B g ks) (hs : Step TT ti B g w w' ks' (fun _ => False)) : Kn TT ti w' x := fun b e => by
  obtain ⟨T, xs, hb, h1, h2⟩ := h b e
  exact ⟨T, xs, hs.blk hg hb h1 h2 (fun x => x), h1, h2⟩
theorem Blk.kn {TT ti : Nat} {w : World} {b T : Nat} {xs : List Value} (h : Blk w b T xs) (h1 : T ≠ TT) (h2 : T ≠ ti) : Kn TT ti w (some b) := fun b' e => by cases e; exact ⟨_, _, h, h1, h2⟩
theorem Blk.known {w : World} {b T : Nat} {xs : List Value} (h : Blk w b T xs) : Known w (some b) := fun b' e => by cases e; exact ⟨_, _, h⟩

section
variable {P : Program} {w : World} {x : Option Nat}
theorem run_viewAt_none {b T : Nat} {xs : List Value} (h : Blk w b T xs) : (viewAt b).run P w = .ok none w := by
  have hs : w.shape? b = some (T, xs.length) := by
    have h' : w.heap[b]? = _ := h
    simp [World.shape?, h']
  simp [viewAt, hs]
theorem run_sameAddr {b c T T' : Nat} {xs ys : List Value} (hb : Blk w b T xs) (hc : Blk w c T' ys) : (sameAddr ⟨b, 0, none⟩ ⟨c, 0, none⟩).run P w = .ok (decide (b = c)) w := by
  by_cases e : b = c
  · subst e; simp [sameAddr]
  · have f1 : w.frozen? ⟨b, 0, none⟩ = false := hb.free _ rfl
    have f3 : ∀ n, w.frozen? ⟨b, n, none⟩ = false := fun n => hb.free _ rfl
    have f4 : ∀ n, w.frozen? ⟨c, n, none⟩ = false := fun n => hc.free _ rfl
    have s1 : w.shape? b = some (T, xs.length) := by
      have h' : w.heap[b]? = _ := hb
      simp [World.shape?, h']
    have s2 : w.shape? c = some (T', ys.length) := by
      have h' : w.heap[c]? = _ := hc
      simp [World.shape?, h']
    have v1 := run_viewAt_none (P := P) hb
    have v2 := run_viewAt_none (P := P) hc
    simp [sameAddr, e, f1, noView, mayBeOne, stringish, f3, f4, s1, s2, v1, v2, Result.andThen]
theorem run_samePointer {x y : Option Nat} (hx : Known w x) (hy : Known w y) : (samePointer (hd x) (hd y)).run P w = .ok (decide (x = y)) w := by
  cases x with
  | none => cases y <;> simp [hd, samePointer]
  | some b =>
    cases y with
    | none => simp [hd, samePointer]
    | some c =>
      obtain ⟨T, xs, hb⟩ := hx b rfl
      obtain ⟨T', ys, hc⟩ := hy c rfl
      have := run_sameAddr (P := P) hb hc
      simpa [hd, samePointer] using this
/-- What x leads to is one variable of type u, sz cells, at the head of a block of its own. -/
def PtrTo (u sz : Nat) (w : World) (x : Option Nat) : Prop := ∀ b, x = some b → ∃ xs, Blk w b u xs ∧ xs.length = sz
theorem PtrTo.none (u sz : Nat) (w : World) : PtrTo u sz w none := fun _ h => by cases h
theorem PtrTo.known {u sz : Nat} (h : PtrTo u sz w x) : Known w x := fun b e => let ⟨xs, hb, _⟩ := h b e; ⟨u, xs, hb⟩
theorem PtrTo.kn {u sz TT ti : Nat} (h : PtrTo u sz w x) (h1 : u ≠ TT) (h2 : u ≠ ti) : Kn TT ti w x := fun b e => let ⟨xs, hb, _⟩ := h b e; ⟨u, xs, hb, h1, h2⟩
theorem PtrTo.step {u sz TT ti B : Nat} {g : Option Nat} {w' : World} {ks ks' : List Int} (h : PtrTo u sz w x) (hg : GAt TT ti w B g ks) (hs : Step TT ti B g w w' ks' (fun _ => False)) (h1 : u ≠ TT) (h2 : u ≠ ti) : PtrTo u sz w' x := fun b e => by
  obtain ⟨xs, hb, hl⟩ := h b e
  exact ⟨xs, hs.blk hg hb h1 h2 (fun x => x), hl⟩
theorem Blk.ptr {u : Nat} {b : Nat} {xs : List Value} (h : Blk w b u xs) : PtrTo u xs.length w (some b) := fun b' e => by cases e; exact ⟨xs, h, rfl⟩
/-- A closed fact on the type's layout. -/
def LiesOne (P : Program) (u sz : Nat) : Prop := liesAt P P.depth u (sz / P.cellsOf u) 0 u 1 = true
theorem run_seenAt {b T o : Nat} {xs : List Value} (h : Blk w b T xs) : (Conv.seenAt ⟨b, o, none⟩).run P w = .ok ⟨b, o, none⟩ w := by
  simp [Conv.seenAt, run_viewAt_none (P := P) h]
theorem Blk.shape {b T : Nat} {xs : List Value} (h : Blk w b T xs) : w.shape? b = some (T, xs.length) := by
  have h' : w.heap[b]? = _ := h
  simp [World.shape?, h']
/-- unsafe.Pointer(p). -/
theorem run_to_unsafe {src dst u sz : TypeId} (hs : P.underlying src = some (.pointer u)) (hdd : P.underlying dst = some .unsafePointer) (hsz : (P.info? u).map (fun i => decide (i.size = 0)) = some false) (hz : 0 < sz)
    {x : Option Nat} (hx : PtrTo u sz w x) : (convert src dst (pv x)).run P w = .ok (pv x) w := by
  cases x with
  | none =>
    show (convert src dst (.pointer none)).run P w = _
    simp [convert, Conv.unsafePointer, run_underlying hs, run_underlying hdd, hd]
  | some b =>
    obtain ⟨xs, hb, hl⟩ := hx b rfl
    have hc : ∃ v, w.cell? ⟨b, 0, none⟩ = some v := by
      rw [hb.cell 0]
      cases xs with
      | nil => exact absurd hl (Nat.ne_of_lt hz)
      | cons v r => exact ⟨v, rfl⟩
    obtain ⟨v, hc⟩ := hc
    exact run_convert_to_unsafe hs hdd hsz hc
/-- ( *T )(p) of an unsafe.Pointer that leads to a T. -/
theorem run_from_unsafe {src dst u sz : TypeId} (hs : P.underlying src = some .unsafePointer) (hdd : P.underlying dst = some (.pointer u)) (hsz : (P.info? u).map (fun i => decide (i.size = 0)) = some false)
    (hlies : LiesOne P u sz) {x : Option Nat} (hx : PtrTo u sz w x) : (convert src dst (pv x)).run P w = .ok (pv x) w := by
  obtain ⟨i, hi, hz0⟩ := Option.map_eq_some_iff.1 hsz
  have hz : i.size ≠ 0 := by simpa using hz0
  cases x with
  | none =>
    show (convert src dst (.pointer none)).run P w = _
    simp [convert, Conv.unsafePointer, run_underlying hs, run_underlying hdd, hd]
  | some b =>
    obtain ⟨xs, hb, hl⟩ := hx b rfl
    subst hl
    unfold LiesOne at hlies
    show (convert src dst (.pointer (some ⟨b, 0, none⟩))).run P w = _
    simp [convert, Conv.unsafePointer, run_underlying hs, run_underlying hdd, run_seenAt (P := P) hb, sizeOf, typeInfo, hi, hz, variablesAt, hb.shape, hlies, Result.andThen, hd]
/-- sync/atomic.LoadPointer, LoadInt64, LoadUint32. -/
theorem run_call_load_ptr {f : FuncId} {fn : Func} (hf : P.funcs[f]? = some fn) (hname : (fn.name == "runtime.NumGoroutine") = false) (hb : fn.body.isNone = true) (hn : Extern.findNext fn = none)
    (he : Extern.find fn = some (Extern.Atomic.loadT .ptr)) {a : Addr} {p : Option Addr} (hc : w.cell? a = some (.pointer p)) :
    (callFunc f #[.pointer (some a)]).run P w = .ok (.value (.pointer p)) w := by
  rw [run_callFunc_extern hf hname hb hn he]
  change (Sem.run P (do Extern.Atomic.read .ptr (← asAddr (.pointer (some a)))) w).andThen _ = _
  simp [Extern.Atomic.read, asAddr, hc, Result.andThen]
theorem run_call_load_int {f : FuncId} {fn : Func} (hf : P.funcs[f]? = some fn) (hname : (fn.name == "runtime.NumGoroutine") = false) (hb : fn.body.isNone = true) (hn : Extern.findNext fn = none) (k : IntKind)
    (he : Extern.find fn = some (Extern.Atomic.loadT (.int k))) {a : Addr} {n : Int} (hc : w.cell? a = some (.int k n)) :
    (callFunc f #[.pointer (some a)]).run P w = .ok (.value (.int k n)) w := by
  rw [run_callFunc_extern hf hname hb hn he]
  change (Sem.run P (do Extern.Atomic.read (.int k) (← asAddr (.pointer (some a)))) w).andThen _ = _
  simp [Extern.Atomic.read, asAddr, hc, Result.andThen]
/-- sync/atomic.StorePointer, StoreInt64, StoreUint32. -/
theorem run_call_store {f : FuncId} {fn : Func} (hf : P.funcs[f]? = some fn) (hname : (fn.name == "runtime.NumGoroutine") = false) (hb : fn.body.isNone = true) (hn : Extern.findNext fn = none)
    (he : Extern.find fn = some Extern.Atomic.storeT) {a : Addr} {u v : Value} (hc : w.cell? a = some u) (hz : w.frozen? a = false) (h1 : v.oneCell' = true) :
    (callFunc f #[.pointer (some a), v]).run P w = .ok (.value (.tuple #[])) (w.setCell a v) := by
  rw [run_callFunc_extern hf hname hb hn he]
  change (Sem.run P (do
    store (← asAddr (.pointer (some a))) v .atomic
    pure Extern.Atomic.none_) w).andThen _ = _
  simp [asAddr, hc, hz, run_store P w _ v .atomic h1, Result.andThen, Extern.Atomic.none_]
/-- sync/atomic.CompareAndSwapPointer of a cell that holds a pointer to a block's head, or nil. -/
theorem run_call_cas_ptr {f : FuncId} {fn : Func} (hf : P.funcs[f]? = some fn) (hname : (fn.name == "runtime.NumGoroutine") = false) (hb : fn.body.isNone = true) (hn : Extern.findNext fn = none)
    (he : Extern.find fn = some (Extern.Atomic.casT .ptr)) {b o T : Nat} {xs : List Value} (hB : Blk w b T xs) {c x : Option Nat} {y : Option Addr} (hc : xs[o]? = some (pv c)) (kc : Known w c) (kx : Known w x) :
    (callFunc f #[.pointer (some ⟨b, o, none⟩), pv x, .pointer y]).run P w = .ok (.value (.bool (decide (c = x)))) (if c = x then w.setCell ⟨b, o, none⟩ (.pointer y) else w) := by
  have hcell : w.cell? ⟨b, o, none⟩ = some (pv c) := by rw [hB.cell o]; exact hc
  have hz : w.frozen? ⟨b, o, none⟩ = false := hB.free _ rfl
  have hv := run_viewAt_none (P := P) hB
  have hs := run_samePointer (P := P) kc kx
  rw [run_callFunc_extern hf hname hb hn he]
  change (Sem.run P (do
    let a' ← asAddr (.pointer (some ⟨b, o, none⟩))
    if ← Extern.Atomic.touchesFrozen a' then unsupported (.unsafePointer "a write to bytes that a string shares")
    let eq ← match Extern.Atomic.T.ptr, ← Extern.Atomic.read .ptr a', pv x with
      | _, .int _ x, .int _ y => pure (x == y)
      | .ptr, .pointer x, .pointer y => samePointer x y
      | .int _, .pointer (some _), .int _ 0 | .int _, .int _ 0, .pointer (some _) => pure false
      | .int _, .pointer (some _), _ | .int _, _, .pointer (some _) => unsupported .addressObserved
      | _, _, _ => stuck "atomic.CompareAndSwap: old is no T"
    if eq then store a' (.pointer y) .atomic
    pure (Value.bool eq)) w).andThen _ = _
  by_cases e : c = x
  · subst e
    simp [Extern.Atomic.touchesFrozen, Extern.Atomic.read, asAddr, hv, hcell, hz, hs, run_store P w _ (.pointer y) .atomic rfl, Result.andThen]
  · simp [Extern.Atomic.touchesFrozen, Extern.Atomic.read, asAddr, hv, hcell, hz, hs, e, Result.andThen]
theorem run_equalIn_ptr (d : Nat) {t el : TypeId} {i : TypeInfo} (ht : P.underlying t = some (.pointer el)) (hi : P.info? el = some i) (hsz : i.size ≠ 0) {x y : Option Nat} (hx : Known w x) (hy : Known w y) :
    (Op.equalIn (d + 1) t (pv x) (pv y)).run P w = .ok (decide (x = y)) w := by
  show (Op.equalIn (d + 1) t (.pointer (hd x)) (.pointer (hd y))).run P w = _
  cases x with
  | none => cases y <;> simp [hd, Op.equalIn, run_underlying ht]
  | some b =>
    cases y with
    | none => simp [hd, Op.equalIn, run_underlying ht]
    | some c =>
      obtain ⟨T, xs, hb⟩ := hx b rfl
      obtain ⟨T', ys, hc⟩ := hy c rfl
      have := run_sameAddr (P := P) hb hc
      simp [hd, Op.equalIn, run_underlying ht, sizeOf, typeInfo, hi, hsz, this]
/-- p == q, of one pointer type whose things have a size. -/
theorem run_eql_ptr {t el : TypeId} {i : TypeInfo} (ht : P.underlying t = some (.pointer el)) (hi : P.info? el = some i) (hsz : i.size ≠ 0) {x y : Option Nat} (hx : Known w x) (hy : Known w y) :
    (binOp .eql t (pv x) (pv y)).run P w = .ok (.bool (decide (x = y))) w := by
  simp only [binOp]
  simp [Op.equal, Op.maxDepth, run_equalIn_ptr 9999 ht hi hsz hx hy]
theorem run_neq_ptr {t el : TypeId} {i : TypeInfo} (ht : P.underlying t = some (.pointer el)) (hi : P.info? el = some i) (hsz : i.size ≠ 0) {x y : Option Nat} (hx : Known w x) (hy : Known w y) :
    (binOp .neq t (pv x) (pv y)).run P w = .ok (.bool (decide (x ≠ y))) w := by
  simp only [binOp]
  simp [Op.equal, Op.maxDepth, run_equalIn_ptr 9999 ht hi hsz hx hy]
end
end Go.Proofs.Yteeficpjggimcaa

/- The gate is passed: nil, or a tape. -/
namespace Go.Proofs.Yteeficpjggimcaa
open Go.RowKit Go.Proofs.YteeficpjggimcaaW.PrintWords

theorem tinfo_int : (Try.prog.info? 3).map (fun i => (i.zero, i.size, i.bytes)) = some (some (.int .i64 0), 1, 8) := by kernel_rfl
theorem method_pass (a : Addr) (w : World) : (method 286 99 (.pointer (some a)) "Pass").run Try.prog w = .ok (104, .pointer (some a)) w := by kernel_rfl

abbrev TapeI := TapeAt 127 3
abbrev StepI := Step 127 3
abbrev GAtI := GAt 127 3
abbrev gvI := gv 99

/-- What a tape's note does to the memory. -/
theorem tape_note {B t : Nat} {ks : List Int} {k : Int} {w w1 : World} {v v' : Value} (hB : B ≤ t) (hb : Blk w t 127 [v]) (hne : v.ownBlock ≠ some t)
    (ho' : w1.ownsRow B 3 1 v' (ks.length + 1) (ks.map (Value.int .i64) ++ [.int .i64 k])) (hg : w.grownBy w1 v.ownBlock)
    (hnew : v'.ownBlock = v.ownBlock ∨ ∃ b, v'.ownBlock = some b ∧ w.heap.size ≤ b) :
    StepI B (some t) w (w1.setCell ⟨t, 0, none⟩ v') (ks ++ [k]) (fun _ => False) := by
  have hb1 : Blk w1 t 127 [v] := hb.same (hg.block t hb.lt (fun e => hne e.symm))
  have hv : w.cell? ⟨t, 0, none⟩ = some v := by rw [hb.cell 0]; rfl
  have hb2 : Blk (w1.setCell ⟨t, 0, none⟩ v') t 127 [v'] := hb1.set 0 v'
  have hnew' : ∀ b, v'.ownBlock = some b → v.ownBlock = some b ∨ w.heap.size ≤ b := by
    intro b hb
    rcases hnew with h | ⟨b', h, h'⟩
    · exact .inl (h ▸ hb)
    · rw [h] at hb; injection hb with hb; exact .inr (by omega)
  have hne' : v'.ownBlock ≠ some t := fun e => by
    rcases hnew' t e with h | h
    · exact hne h
    · have := hb.lt; omega
  refine ⟨fun t' ht' => ?_, ?_, fun i hi => ?_⟩
  · obtain rfl : t = t' := by simpa using ht'
    refine ⟨v', hB, hb2, ?_, hne'⟩
    have h3 := owns_fr ho' ((Fr.refl w1 (fun k => k = t)).setCell ⟨t, 0, none⟩ v' (fun _ => rfl)) (fun i hi hx => hne' (by rw [hi]; rw [hx]))
    simpa using h3
  · have h1 : Fr w w1 (fun k => GFoot w (some t) k ∨ False) :=
      (Fr.of_grown hg).mono (fun i _ hi => .inl ⟨t, rfl, .inr ⟨v, hv, hi.symm⟩⟩)
    exact h1.setCell ⟨t, 0, none⟩ v' (fun _ => .inl ⟨t, rfl, .inl rfl⟩)
  · obtain ⟨t', ht', hi⟩ := hi
    obtain rfl : t = t' := by simpa using ht'
    rcases hi with rfl | ⟨x, hx, hi⟩
    · exact .inl ⟨_, rfl, .inl rfl⟩
    · rw [hb2.cell 0] at hx
      obtain rfl : v' = x := by simpa using hx
      rcases hnew' i hi with h | h
      · exact .inl ⟨_, rfl, .inr ⟨v, hv, h⟩⟩
      · exact .inr h

set_option maxHeartbeats 400000 in
theorem tape_pass (B t : Nat) (ks : List Int) (k : Int) (w : World) (h : TapeI w B t ks) (hbB : B ≤ w.heap.size) (hl : ks.length ≤ 1000000000) :
    Calls Try.prog 104 #[.pointer (some ⟨t, 0, none⟩), .int .i64 k] w fun e w' => e = .returned (.tuple #[]) ∧ StepI B (some t) w w' (ks ++ [k]) (fun _ => False) := by
  obtain ⟨v, hB, hb, ho, hne⟩ := h
  have hv : w.cell? ⟨t, 0, none⟩ = some v := by rw [hb.cell 0]; rfl
  go_enter Try.func104, Try.ntmps104
  go_wp2_with (at_builtin; refine print_append_cells B rfl _ _ 24 3 (.int .i64 0) 1 8 rfl Try.underlying24 tinfo_int rfl (by decide) (by decide) v ks.length _ [.int .i64 k] rfl rfl rfl (by simp [Value.oneCell']) ho (Below.refl _ _) hbB (by omega) ?_)
  intro v1 w1 hown1 hb1 hg1 hat1
  have H := tape_note hB hb hne hown1 hg1 hat1
  have hb1 : Blk w1 t 127 [v] := hb.same (hg1.block t hb.lt (fun e => hne e.symm))
  have hc1 : w1.cell? ⟨t, 0, none⟩ = some v := by rw [hb1.cell 0]; rfl
  have hf1 : w1.frozen? ⟨t, 0, none⟩ = false := hb1.free _ rfl
  have hex : ∃ A c, v1 = .slice A (ks.length + 1) c := by
    rcases hown1.2 with ⟨h, _⟩ | ⟨g, cap, cur, h, _⟩
    · exact ⟨_, _, by rw [h]; congr 1; omega⟩
    · exact ⟨_, _, h⟩
  clear hown1 hg1 hat1 hb1 hv ho hb
  obtain ⟨A, c, hv1⟩ := hex
  rw [hv1] at H ⊢
  go_wp2
  go_end0
  exact ⟨rfl, H⟩

set_option maxHeartbeats 400000 in
theorem pass_nil (k : Int) (w : World) : Calls Try.prog 48 #[.nilIface, .int .i64 k] w fun e w' => e = .returned (.tuple #[]) ∧ w = w' := by
  go_enter Try.func48, Try.ntmps48
  go_wp2
  go_end0
  exact ⟨rfl, rfl⟩
set_option maxHeartbeats 400000 in
theorem pass_any (B : Nat) (g : Option Nat) (ks : List Int) (k : Int) (w : World) (h : GAtI w B g ks) (hbB : B ≤ w.heap.size) (hl : ks.length ≤ 1000000000) :
    Calls Try.prog 48 #[gvI g, .int .i64 k] w fun e w' => e = .returned (.tuple #[]) ∧ StepI B g w w' (ks ++ [k]) (fun _ => False) := by
  cases g with
  | none =>
    have H : StepI B none w w (ks ++ [k]) (fun _ => False) := Step.refl (GAt.nil _ _ _ _ _) _
    show Calls Try.prog 48 #[.nilIface, .int .i64 k] w _
    clear h
    go_enter Try.func48, Try.ntmps48
    go_wp2
    go_end0
    exact ⟨rfl, H⟩
  | some t =>
    have h' := h t rfl
    have hm := method_pass
    show Calls Try.prog 48 #[.iface 99 (.pointer (some ⟨t, 0, none⟩)), .int .i64 k] w _
    go_enter Try.func48, Try.ntmps48
    go_wp2_with fail
    refine (tape_pass B t ks k w h' hbB hl).mono ?_
    rintro e w' ⟨rfl, H⟩
    clear h h'
    go_wp2
    go_end0
    exact ⟨rfl, H⟩
end Go.Proofs.Yteeficpjggimcaa

/- Cells, numbers, marks: each access by a gate (nil or a tape). Written by mk.py. -/
namespace Go.Proofs.Yteeficpjggimcaa
open Go.RowKit Go.Proofs.YteeficpjggimcaaW.PrintWords
abbrev TT : Nat := 127
abbrev ti : Nat := 3
set_option linter.unusedVariables false

theorem lies_RecordapiPair : LiesOne Try.prog 86 5 := by unfold LiesOne; kernel_rfl
theorem size_RecordapiPair : (Try.prog.info? 86).map (fun i => decide (i.size = 0)) = some false := by kernel_rfl

set_option maxHeartbeats 400000 in
theorem cell_load_RecordapiPair (B : Nat) (g : Option Nat) (ks : List Int) (b o T : Nat) (xs : List Value) (w : World) (h : GAtI w B g ks) (hbB : B ≤ w.heap.size) (hl : ks.length ≤ 1000000000) (hb : Blk w b T xs) (h1 : T ≠ TT) (h2 : T ≠ ti) (p : Option Nat) (hx : xs[o]? = some (pv p)) (hp : PtrTo 86 5 w p) :
    Calls Try.prog 45 #[.pointer (some ⟨b, o, none⟩), gvI g] w fun e w' => e = .returned (pv p) ∧ StepI B g w w' (ks ++ [1]) (fun _ => False) := by
  go_enter Try.func45, Try.ntmps45
  go_wp2_with fail
  refine (pass_any B g ks 1 w h hbB hl).mono ?_
  rintro e w1 ⟨rfl, H⟩
  have hb1 := H.blk h hb h1 h2 (fun x => x)
  have hgt := H.gate
  have hto := fun (x : Option Nat) (hx : PtrTo 86 5 w1 x) => run_to_unsafe (P := Try.prog) (src := 58) (dst := 75) Try.underlying58 Try.underlying75 size_RecordapiPair (by decide) hx
  have hfr := fun (x : Option Nat) (hx : PtrTo 86 5 w1 x) => run_from_unsafe (P := Try.prog) (src := 75) (dst := 58) Try.underlying75 Try.underlying58 size_RecordapiPair lies_RecordapiPair hx
  have hk := hfr p (hp.step h H (by decide) (by decide))
  clear hto hfr hp

  have hc1 : w1.cell? ⟨b, o, none⟩ = some (pv p) := by rw [hb1.cell o]; exact hx
  have hrun := run_call_load_ptr (P := Try.prog) Try.func70 (by kernel_rfl) (by kernel_rfl) (by kernel_rfl) (by kernel_rfl) hc1
  clear h hb hb1 hgt h1 h2 hx hl hbB
  go_wp2
  go_ret
  exact ⟨rfl, H⟩

set_option maxHeartbeats 400000 in
theorem cell_store_RecordapiPair (B : Nat) (g : Option Nat) (ks : List Int) (b o T : Nat) (xs : List Value) (w : World) (h : GAtI w B g ks) (hbB : B ≤ w.heap.size) (hl : ks.length ≤ 1000000000) (hb : Blk w b T xs) (h1 : T ≠ TT) (h2 : T ≠ ti) (p : Option Nat) (u : Value) (hx : xs[o]? = some u) (hp : PtrTo 86 5 w p) :
    Calls Try.prog 38 #[.pointer (some ⟨b, o, none⟩), gvI g, pv p] w fun e w' => e = .returned (.tuple #[]) ∧ StepI B g w w' (ks ++ [2]) (fun k => k = b) ∧ Blk w' b T (xs.set o (pv p)) := by
  go_enter Try.func38, Try.ntmps38
  go_wp2_with fail
  refine (pass_any B g ks 2 w h hbB hl).mono ?_
  rintro e w1 ⟨rfl, H⟩
  have hb1 := H.blk h hb h1 h2 (fun x => x)
  have hgt := H.gate
  have hto := fun (x : Option Nat) (hx : PtrTo 86 5 w1 x) => run_to_unsafe (P := Try.prog) (src := 58) (dst := 75) Try.underlying58 Try.underlying75 size_RecordapiPair (by decide) hx
  have hfr := fun (x : Option Nat) (hx : PtrTo 86 5 w1 x) => run_from_unsafe (P := Try.prog) (src := 75) (dst := 58) Try.underlying75 Try.underlying58 size_RecordapiPair lies_RecordapiPair hx
  have hk := hto p (hp.step h H (by decide) (by decide))
  clear hto hfr hp

  have hc1 : w1.cell? ⟨b, o, none⟩ = some u := by rw [hb1.cell o]; exact hx
  have hf1 : w1.frozen? ⟨b, o, none⟩ = false := hb1.free _ rfl
  have hrun := run_call_store (P := Try.prog) Try.func57 (by kernel_rfl) (by kernel_rfl) (by kernel_rfl) (by kernel_rfl) hc1 hf1 (v := pv p) rfl
  have hB := hb1.set o (pv p)
  have H2 : StepI B g w (w1.setCell ⟨b, o, none⟩ (pv p)) (ks ++ [2]) (fun k => k = b) :=
    (H.mono (S' := fun k => k = b) (fun _ _ x => x.elim)).trans (hgt.fr ((Fr.refl w1 (fun k => k = b)).setCell _ _ (fun _ => rfl)) (fun k hk e => hgt.apart hb1 h1 h2 (e ▸ hk))) (fun _ _ x => x)
  clear h hb hb1 hgt H h1 h2 hx hl hbB
  go_wp2
  go_end0
  go_wp2
  go_end0
  exact ⟨rfl, H2, hB⟩

set_option maxHeartbeats 400000 in
theorem cell_loadn_RecordapiPair (b o T : Nat) (xs : List Value) (w : World) (hb : Blk w b T xs) (p : Option Nat) (hx : xs[o]? = some (pv p)) (hp : PtrTo 86 5 w p) :
    Calls Try.prog 45 #[.pointer (some ⟨b, o, none⟩), .nilIface] w fun e w' => e = .returned (pv p) ∧ w = w' := by
  have hc1 : w.cell? ⟨b, o, none⟩ = some (pv p) := by rw [hb.cell o]; exact hx
  have hrun := run_call_load_ptr (P := Try.prog) Try.func70 (by kernel_rfl) (by kernel_rfl) (by kernel_rfl) (by kernel_rfl) hc1
  have hto := fun (x : Option Nat) (hx : PtrTo 86 5 w x) => run_to_unsafe (P := Try.prog) (src := 58) (dst := 75) Try.underlying58 Try.underlying75 size_RecordapiPair (by decide) hx
  have hfr := fun (x : Option Nat) (hx : PtrTo 86 5 w x) => run_from_unsafe (P := Try.prog) (src := 75) (dst := 58) Try.underlying75 Try.underlying58 size_RecordapiPair lies_RecordapiPair hx
  have hk := hfr p hp
  clear hto hfr hp
  clear hb hx
  go_enter Try.func45, Try.ntmps45
  go_wp2_with fail
  refine (pass_nil _ w).mono ?_
  rintro e w1 ⟨rfl, rfl⟩
  go_wp2
  go_ret
  exact ⟨rfl, rfl⟩

set_option maxHeartbeats 400000 in
theorem cell_cas_RecordapiPair (B : Nat) (g : Option Nat) (ks : List Int) (b o T : Nat) (xs : List Value) (w : World) (h : GAtI w B g ks) (hbB : B ≤ w.heap.size) (hl : ks.length ≤ 1000000000) (hb : Blk w b T xs) (h1 : T ≠ TT) (h2 : T ≠ ti) (c x y : Option Nat) (hx : xs[o]? = some (pv c)) (kc : PtrTo 86 5 w c) (kx : PtrTo 86 5 w x) (ky : PtrTo 86 5 w y) :
    Calls Try.prog 74 #[.pointer (some ⟨b, o, none⟩), gvI g, pv x, pv y] w fun e w' => e = .returned (.bool (decide (c = x))) ∧ StepI B g w w' (ks ++ [5]) (fun k => k = b) ∧ Blk w' b T (if c = x then xs.set o (pv y) else xs) := by
  by_cases e : c = x
  all_goals
    first | rw [if_pos e, decide_eq_true e] | rw [if_neg e, decide_eq_false e]
    go_enter Try.func74, Try.ntmps74
    go_wp2_with fail
    refine (pass_any B g ks 5 w h hbB hl).mono ?_
    rintro e_ w1 ⟨rfl, H⟩
    have hb1 := H.blk h hb h1 h2 (fun x => x)
    have hgt := H.gate
    have hcas := run_call_cas_ptr (P := Try.prog) Try.func84 (by kernel_rfl) (by kernel_rfl) (by kernel_rfl) (by kernel_rfl) hb1 hx (kc.step h H (by decide) (by decide)).known (kx.step h H (by decide) (by decide)).known (y := hd y)
    have hto := fun (x : Option Nat) (hx : PtrTo 86 5 w1 x) => run_to_unsafe (P := Try.prog) (src := 58) (dst := 75) Try.underlying58 Try.underlying75 size_RecordapiPair (by decide) hx
    have hfr := fun (x : Option Nat) (hx : PtrTo 86 5 w1 x) => run_from_unsafe (P := Try.prog) (src := 75) (dst := 58) Try.underlying75 Try.underlying58 size_RecordapiPair lies_RecordapiPair hx
    have hkx := hto x (kx.step h H (by decide) (by decide))
    have hky := hto y (ky.step h H (by decide) (by decide))
    clear hto hfr
    first | rw [if_pos e, decide_eq_true e] at hcas | rw [if_neg e, decide_eq_false e] at hcas
  · have hB := hb1.set o (pv y)
    have H2 : StepI B g w (w1.setCell ⟨b, o, none⟩ (pv y)) (ks ++ [5]) (fun k => k = b) :=
      (H.mono (S' := fun k => k = b) (fun _ _ x => x.elim)).trans (hgt.fr ((Fr.refl w1 (fun k => k = b)).setCell _ _ (fun _ => rfl)) (fun k hk e => hgt.apart hb1 h1 h2 (e ▸ hk))) (fun _ _ x => x)
    clear h hb hb1 hgt H kc kx ky e h1 h2 hx hl hbB
    go_wp2
    go_ret
    exact ⟨rfl, H2, hB⟩
  · have H2 : StepI B g w w1 (ks ++ [5]) (fun k => k = b) := H.mono (fun _ _ x => x.elim)
    have hB := hb1
    clear h hb hb1 hgt H kc kx ky e h1 h2 hx hl hbB
    go_wp2
    go_ret
    exact ⟨rfl, H2, hB⟩

theorem lies_ScxapiPair : LiesOne Try.prog 116 9 := by unfold LiesOne; kernel_rfl
theorem size_ScxapiPair : (Try.prog.info? 116).map (fun i => decide (i.size = 0)) = some false := by kernel_rfl

set_option maxHeartbeats 400000 in
theorem cell_load_ScxapiPair (B : Nat) (g : Option Nat) (ks : List Int) (b o T : Nat) (xs : List Value) (w : World) (h : GAtI w B g ks) (hbB : B ≤ w.heap.size) (hl : ks.length ≤ 1000000000) (hb : Blk w b T xs) (h1 : T ≠ TT) (h2 : T ≠ ti) (p : Option Nat) (hx : xs[o]? = some (pv p)) (hp : PtrTo 116 9 w p) :
    Calls Try.prog 55 #[.pointer (some ⟨b, o, none⟩), gvI g] w fun e w' => e = .returned (pv p) ∧ StepI B g w w' (ks ++ [1]) (fun _ => False) := by
  go_enter Try.func55, Try.ntmps55
  go_wp2_with fail
  refine (pass_any B g ks 1 w h hbB hl).mono ?_
  rintro e w1 ⟨rfl, H⟩
  have hb1 := H.blk h hb h1 h2 (fun x => x)
  have hgt := H.gate
  have hto := fun (x : Option Nat) (hx : PtrTo 116 9 w1 x) => run_to_unsafe (P := Try.prog) (src := 71) (dst := 75) Try.underlying71 Try.underlying75 size_ScxapiPair (by decide) hx
  have hfr := fun (x : Option Nat) (hx : PtrTo 116 9 w1 x) => run_from_unsafe (P := Try.prog) (src := 75) (dst := 71) Try.underlying75 Try.underlying71 size_ScxapiPair lies_ScxapiPair hx
  have hk := hfr p (hp.step h H (by decide) (by decide))
  clear hto hfr hp

  have hc1 : w1.cell? ⟨b, o, none⟩ = some (pv p) := by rw [hb1.cell o]; exact hx
  have hrun := run_call_load_ptr (P := Try.prog) Try.func70 (by kernel_rfl) (by kernel_rfl) (by kernel_rfl) (by kernel_rfl) hc1
  clear h hb hb1 hgt h1 h2 hx hl hbB
  go_wp2
  go_ret
  exact ⟨rfl, H⟩

set_option maxHeartbeats 400000 in
theorem cell_store_ScxapiPair (B : Nat) (g : Option Nat) (ks : List Int) (b o T : Nat) (xs : List Value) (w : World) (h : GAtI w B g ks) (hbB : B ≤ w.heap.size) (hl : ks.length ≤ 1000000000) (hb : Blk w b T xs) (h1 : T ≠ TT) (h2 : T ≠ ti) (p : Option Nat) (u : Value) (hx : xs[o]? = some u) (hp : PtrTo 116 9 w p) :
    Calls Try.prog 40 #[.pointer (some ⟨b, o, none⟩), gvI g, pv p] w fun e w' => e = .returned (.tuple #[]) ∧ StepI B g w w' (ks ++ [2]) (fun k => k = b) ∧ Blk w' b T (xs.set o (pv p)) := by
  go_enter Try.func40, Try.ntmps40
  go_wp2_with fail
  refine (pass_any B g ks 2 w h hbB hl).mono ?_
  rintro e w1 ⟨rfl, H⟩
  have hb1 := H.blk h hb h1 h2 (fun x => x)
  have hgt := H.gate
  have hto := fun (x : Option Nat) (hx : PtrTo 116 9 w1 x) => run_to_unsafe (P := Try.prog) (src := 71) (dst := 75) Try.underlying71 Try.underlying75 size_ScxapiPair (by decide) hx
  have hfr := fun (x : Option Nat) (hx : PtrTo 116 9 w1 x) => run_from_unsafe (P := Try.prog) (src := 75) (dst := 71) Try.underlying75 Try.underlying71 size_ScxapiPair lies_ScxapiPair hx
  have hk := hto p (hp.step h H (by decide) (by decide))
  clear hto hfr hp

  have hc1 : w1.cell? ⟨b, o, none⟩ = some u := by rw [hb1.cell o]; exact hx
  have hf1 : w1.frozen? ⟨b, o, none⟩ = false := hb1.free _ rfl
  have hrun := run_call_store (P := Try.prog) Try.func57 (by kernel_rfl) (by kernel_rfl) (by kernel_rfl) (by kernel_rfl) hc1 hf1 (v := pv p) rfl
  have hB := hb1.set o (pv p)
  have H2 : StepI B g w (w1.setCell ⟨b, o, none⟩ (pv p)) (ks ++ [2]) (fun k => k = b) :=
    (H.mono (S' := fun k => k = b) (fun _ _ x => x.elim)).trans (hgt.fr ((Fr.refl w1 (fun k => k = b)).setCell _ _ (fun _ => rfl)) (fun k hk e => hgt.apart hb1 h1 h2 (e ▸ hk))) (fun _ _ x => x)
  clear h hb hb1 hgt H h1 h2 hx hl hbB
  go_wp2
  go_end0
  go_wp2
  go_end0
  exact ⟨rfl, H2, hB⟩

set_option maxHeartbeats 400000 in
theorem cell_loadn_ScxapiPair (b o T : Nat) (xs : List Value) (w : World) (hb : Blk w b T xs) (p : Option Nat) (hx : xs[o]? = some (pv p)) (hp : PtrTo 116 9 w p) :
    Calls Try.prog 55 #[.pointer (some ⟨b, o, none⟩), .nilIface] w fun e w' => e = .returned (pv p) ∧ w = w' := by
  have hc1 : w.cell? ⟨b, o, none⟩ = some (pv p) := by rw [hb.cell o]; exact hx
  have hrun := run_call_load_ptr (P := Try.prog) Try.func70 (by kernel_rfl) (by kernel_rfl) (by kernel_rfl) (by kernel_rfl) hc1
  have hto := fun (x : Option Nat) (hx : PtrTo 116 9 w x) => run_to_unsafe (P := Try.prog) (src := 71) (dst := 75) Try.underlying71 Try.underlying75 size_ScxapiPair (by decide) hx
  have hfr := fun (x : Option Nat) (hx : PtrTo 116 9 w x) => run_from_unsafe (P := Try.prog) (src := 75) (dst := 71) Try.underlying75 Try.underlying71 size_ScxapiPair lies_ScxapiPair hx
  have hk := hfr p hp
  clear hto hfr hp
  clear hb hx
  go_enter Try.func55, Try.ntmps55
  go_wp2_with fail
  refine (pass_nil _ w).mono ?_
  rintro e w1 ⟨rfl, rfl⟩
  go_wp2
  go_ret
  exact ⟨rfl, rfl⟩

set_option maxHeartbeats 400000 in
theorem cell_cas_ScxapiPair (B : Nat) (g : Option Nat) (ks : List Int) (b o T : Nat) (xs : List Value) (w : World) (h : GAtI w B g ks) (hbB : B ≤ w.heap.size) (hl : ks.length ≤ 1000000000) (hb : Blk w b T xs) (h1 : T ≠ TT) (h2 : T ≠ ti) (c x y : Option Nat) (hx : xs[o]? = some (pv c)) (kc : PtrTo 116 9 w c) (kx : PtrTo 116 9 w x) (ky : PtrTo 116 9 w y) :
    Calls Try.prog 71 #[.pointer (some ⟨b, o, none⟩), gvI g, pv x, pv y] w fun e w' => e = .returned (.bool (decide (c = x))) ∧ StepI B g w w' (ks ++ [5]) (fun k => k = b) ∧ Blk w' b T (if c = x then xs.set o (pv y) else xs) := by
  by_cases e : c = x
  all_goals
    first | rw [if_pos e, decide_eq_true e] | rw [if_neg e, decide_eq_false e]
    go_enter Try.func71, Try.ntmps71
    go_wp2_with fail
    refine (pass_any B g ks 5 w h hbB hl).mono ?_
    rintro e_ w1 ⟨rfl, H⟩
    have hb1 := H.blk h hb h1 h2 (fun x => x)
    have hgt := H.gate
    have hcas := run_call_cas_ptr (P := Try.prog) Try.func84 (by kernel_rfl) (by kernel_rfl) (by kernel_rfl) (by kernel_rfl) hb1 hx (kc.step h H (by decide) (by decide)).known (kx.step h H (by decide) (by decide)).known (y := hd y)
    have hto := fun (x : Option Nat) (hx : PtrTo 116 9 w1 x) => run_to_unsafe (P := Try.prog) (src := 71) (dst := 75) Try.underlying71 Try.underlying75 size_ScxapiPair (by decide) hx
    have hfr := fun (x : Option Nat) (hx : PtrTo 116 9 w1 x) => run_from_unsafe (P := Try.prog) (src := 75) (dst := 71) Try.underlying75 Try.underlying71 size_ScxapiPair lies_ScxapiPair hx
    have hkx := hto x (kx.step h H (by decide) (by decide))
    have hky := hto y (ky.step h H (by decide) (by decide))
    clear hto hfr
    first | rw [if_pos e, decide_eq_true e] at hcas | rw [if_neg e, decide_eq_false e] at hcas
  · have hB := hb1.set o (pv y)
    have H2 : StepI B g w (w1.setCell ⟨b, o, none⟩ (pv y)) (ks ++ [5]) (fun k => k = b) :=
      (H.mono (S' := fun k => k = b) (fun _ _ x => x.elim)).trans (hgt.fr ((Fr.refl w1 (fun k => k = b)).setCell _ _ (fun _ => rfl)) (fun k hk e => hgt.apart hb1 h1 h2 (e ▸ hk))) (fun _ _ x => x)
    clear h hb hb1 hgt H kc kx ky e h1 h2 hx hl hbB
    go_wp2
    go_ret
    exact ⟨rfl, H2, hB⟩
  · have H2 : StepI B g w w1 (ks ++ [5]) (fun k => k = b) := H.mono (fun _ _ x => x.elim)
    have hB := hb1
    clear h hb hb1 hgt H kc kx ky e h1 h2 hx hl hbB
    go_wp2
    go_ret
    exact ⟨rfl, H2, hB⟩

set_option maxHeartbeats 400000 in
theorem num_load (B : Nat) (g : Option Nat) (ks : List Int) (b o T : Nat) (xs : List Value) (w : World) (h : GAtI w B g ks) (hbB : B ≤ w.heap.size) (hl : ks.length ≤ 1000000000) (hb : Blk w b T xs) (h1 : T ≠ TT) (h2 : T ≠ ti) (n : Int) (hn0 : 0 ≤ n) (hn1 : n ≤ 1000) (hx : xs[o]? = some (.int .i64 n)) :
    Calls Try.prog 78 #[.pointer (some ⟨b, o, none⟩), gvI g] w fun e w' => e = .returned (.int .i64 n) ∧ StepI B g w w' (ks ++ [1]) (fun _ => False) := by
  go_enter Try.func78, Try.ntmps78
  go_wp2_with fail
  refine (pass_any B g ks 1 w h hbB hl).mono ?_
  rintro e w1 ⟨rfl, H⟩
  have hb1 := H.blk h hb h1 h2 (fun x => x)
  have hgt := H.gate

  have hc1 : w1.cell? ⟨b, o, none⟩ = some (.int .i64 n) := by rw [hb1.cell o]; exact hx
  have hrun := run_call_load_int (P := Try.prog) Try.func88 (by kernel_rfl) (by kernel_rfl) (by kernel_rfl) .i64 (by kernel_rfl) hc1
  clear h hb hb1 hgt h1 h2 hx hl hbB
  go_wp2
  go_ret
  exact ⟨rfl, H⟩

set_option maxHeartbeats 400000 in
theorem num_loadn (b o T : Nat) (xs : List Value) (w : World) (hb : Blk w b T xs) (n : Int) (hn0 : 0 ≤ n) (hn1 : n ≤ 1000) (hx : xs[o]? = some (.int .i64 n)) :
    Calls Try.prog 78 #[.pointer (some ⟨b, o, none⟩), .nilIface] w fun e w' => e = .returned (.int .i64 n) ∧ w = w' := by
  have hc1 : w.cell? ⟨b, o, none⟩ = some (.int .i64 n) := by rw [hb.cell o]; exact hx
  have hrun := run_call_load_int (P := Try.prog) Try.func88 (by kernel_rfl) (by kernel_rfl) (by kernel_rfl) .i64 (by kernel_rfl) hc1
  clear hb hx
  go_enter Try.func78, Try.ntmps78
  go_wp2_with fail
  refine (pass_nil _ w).mono ?_
  rintro e w1 ⟨rfl, rfl⟩
  go_wp2
  go_ret
  exact ⟨rfl, rfl⟩

set_option maxHeartbeats 400000 in
theorem num_store (B : Nat) (g : Option Nat) (ks : List Int) (b o T : Nat) (xs : List Value) (w : World) (h : GAtI w B g ks) (hbB : B ≤ w.heap.size) (hl : ks.length ≤ 1000000000) (hb : Blk w b T xs) (h1 : T ≠ TT) (h2 : T ≠ ti) (n : Int) (hn0 : 0 ≤ n) (hn1 : n ≤ 1000) (u : Value) (hx : xs[o]? = some u) :
    Calls Try.prog 39 #[.pointer (some ⟨b, o, none⟩), gvI g, .int .i64 n] w fun e w' => e = .returned (.tuple #[]) ∧ StepI B g w w' (ks ++ [2]) (fun k => k = b) ∧ Blk w' b T (xs.set o (.int .i64 n)) := by
  go_enter Try.func39, Try.ntmps39
  go_wp2_with fail
  refine (pass_any B g ks 2 w h hbB hl).mono ?_
  rintro e w1 ⟨rfl, H⟩
  have hb1 := H.blk h hb h1 h2 (fun x => x)
  have hgt := H.gate

  have hc1 : w1.cell? ⟨b, o, none⟩ = some u := by rw [hb1.cell o]; exact hx
  have hf1 : w1.frozen? ⟨b, o, none⟩ = false := hb1.free _ rfl
  have hrun := run_call_store (P := Try.prog) Try.func58 (by kernel_rfl) (by kernel_rfl) (by kernel_rfl) (by kernel_rfl) hc1 hf1 (v := .int .i64 n) rfl
  have hB := hb1.set o (.int .i64 n)
  have H2 : StepI B g w (w1.setCell ⟨b, o, none⟩ (.int .i64 n)) (ks ++ [2]) (fun k => k = b) :=
    (H.mono (S' := fun k => k = b) (fun _ _ x => x.elim)).trans (hgt.fr ((Fr.refl w1 (fun k => k = b)).setCell _ _ (fun _ => rfl)) (fun k hk e => hgt.apart hb1 h1 h2 (e ▸ hk))) (fun _ _ x => x)
  clear h hb hb1 hgt H h1 h2 hx hl hbB
  go_wp2
  go_end0
  go_wp2
  go_end0
  exact ⟨rfl, H2, hB⟩

set_option maxHeartbeats 400000 in
theorem b32_false (w : World) : Calls Try.prog 87 #[.bool false] w fun e w' => e = .returned (.int .u32 0) ∧ w = w' := by
  go_enter Try.func87, Try.ntmps87
  go_wp2
  go_ret
  exact ⟨rfl, rfl⟩
set_option maxHeartbeats 400000 in
theorem bool_store_false (a : Addr) (w : World) (u : Value) (hc : w.cell? a = some u) (hf : w.frozen? a = false) :
    Calls Try.prog 81 #[.pointer (some a), .bool false] w fun e w' => e = .returned (.tuple #[]) ∧ w' = w.drew.setCell a (.int .u32 0) := by
  have hc1 : w.drew.cell? a = some u := hc
  have hf1 : w.drew.frozen? a = false := hf
  have hrun := run_call_store (P := Try.prog) Try.func86 (by kernel_rfl) (by kernel_rfl) (by kernel_rfl) (by kernel_rfl) hc1 hf1 (v := .int .u32 0) rfl
  go_enter Try.func81, Try.ntmps81
  go_region_with (go_at_call 87; refine (b32_false _).mono ?_; rintro e w' ⟨rfl, rfl⟩)
  go_end0
  exact ⟨rfl, rfl⟩

set_option maxHeartbeats 400000 in
theorem mark_load_false (B : Nat) (g : Option Nat) (ks : List Int) (b o T : Nat) (xs : List Value) (w : World) (h : GAtI w B g ks) (hbB : B ≤ w.heap.size) (hl : ks.length ≤ 1000000000) (hb : Blk w b T xs) (h1 : T ≠ TT) (h2 : T ≠ ti) (hx : xs[o]? = some (.int .u32 0)) :
    Calls Try.prog 72 #[.pointer (some ⟨b, o, none⟩), gvI g] w fun e w' => e = .returned (.bool false) ∧ StepI B g w w' (ks ++ [1]) (fun _ => False) := by
  go_enter Try.func72, Try.ntmps72
  go_wp2_with fail
  refine (pass_any B g ks 1 w h hbB hl).mono ?_
  rintro e w1 ⟨rfl, H⟩
  have hb1 := H.blk h hb h1 h2 (fun x => x)
  have hgt := H.gate

  have hc1 : w1.cell? ⟨b, o, none⟩ = some (.int .u32 0) := by rw [hb1.cell o]; exact hx
  have hrun := run_call_load_int (P := Try.prog) Try.func85 (by kernel_rfl) (by kernel_rfl) (by kernel_rfl) .u32 (by kernel_rfl) hc1
  clear h hb hb1 hgt h1 h2 hx hl hbB
  go_wp2
  go_ret
  exact ⟨rfl, H⟩

set_option maxHeartbeats 400000 in
theorem mark_loadn_false (b o T : Nat) (xs : List Value) (w : World) (hb : Blk w b T xs) (hx : xs[o]? = some (.int .u32 0)) :
    Calls Try.prog 72 #[.pointer (some ⟨b, o, none⟩), .nilIface] w fun e w' => e = .returned (.bool false) ∧ w = w' := by
  have hc1 : w.cell? ⟨b, o, none⟩ = some (.int .u32 0) := by rw [hb.cell o]; exact hx
  have hrun := run_call_load_int (P := Try.prog) Try.func85 (by kernel_rfl) (by kernel_rfl) (by kernel_rfl) .u32 (by kernel_rfl) hc1
  clear hb hx
  go_enter Try.func72, Try.ntmps72
  go_wp2_with fail
  refine (pass_nil _ w).mono ?_
  rintro e w1 ⟨rfl, rfl⟩
  go_wp2
  go_ret
  exact ⟨rfl, rfl⟩

set_option maxHeartbeats 400000 in
theorem mark_store_false (B : Nat) (g : Option Nat) (ks : List Int) (b o T : Nat) (xs : List Value) (w : World) (h : GAtI w B g ks) (hbB : B ≤ w.heap.size) (hl : ks.length ≤ 1000000000) (hb : Blk w b T xs) (h1 : T ≠ TT) (h2 : T ≠ ti) (u : Value) (hx : xs[o]? = some u) :
    Calls Try.prog 73 #[.pointer (some ⟨b, o, none⟩), gvI g, .bool false] w fun e w' => e = .returned (.tuple #[]) ∧ StepI B g w w' (ks ++ [2]) (fun k => k = b) ∧ Blk w' b T (xs.set o (.int .u32 0)) := by
  go_enter Try.func73, Try.ntmps73
  go_wp2_with fail
  refine (pass_any B g ks 2 w h hbB hl).mono ?_
  rintro e w1 ⟨rfl, H⟩
  have hb1 := H.blk h hb h1 h2 (fun x => x)
  have hgt := H.gate

  have hc1 : w1.cell? ⟨b, o, none⟩ = some u := by rw [hb1.cell o]; exact hx
  have hf1 : w1.frozen? ⟨b, o, none⟩ = false := hb1.free _ rfl
  have hB : Blk (w1.drew.setCell ⟨b, o, none⟩ (.int .u32 0)) b T (xs.set o (.int .u32 0)) := hb1.drew.set o (.int .u32 0)
  have H2 : StepI B g w (w1.drew.setCell ⟨b, o, none⟩ (.int .u32 0)) (ks ++ [2]) (fun k => k = b) :=
    (H.mono (S' := fun k => k = b) (fun _ _ x => x.elim)).trans (hgt.fr ((Fr.refl w1 (fun k => k = b)).drew.setCell _ _ (fun _ => rfl)) (fun k hk e => hgt.apart hb1 h1 h2 (e ▸ hk))) (fun _ _ x => x)
  clear h hb hb1 hgt H h1 h2 hx hl hbB
  go_wp2_with fail
  refine (bool_store_false _ w1 u hc1 hf1).mono ?_
  rintro e w2 ⟨rfl, rfl⟩
  go_wp2
  go_end0
  exact ⟨rfl, H2, hB⟩

set_option maxHeartbeats 400000 in
theorem b32_true (w : World) : Calls Try.prog 87 #[.bool true] w fun e w' => e = .returned (.int .u32 1) ∧ w = w' := by
  go_enter Try.func87, Try.ntmps87
  go_wp2
  go_ret
  exact ⟨rfl, rfl⟩
set_option maxHeartbeats 400000 in
theorem bool_store_true (a : Addr) (w : World) (u : Value) (hc : w.cell? a = some u) (hf : w.frozen? a = false) :
    Calls Try.prog 81 #[.pointer (some a), .bool true] w fun e w' => e = .returned (.tuple #[]) ∧ w' = w.drew.setCell a (.int .u32 1) := by
  have hc1 : w.drew.cell? a = some u := hc
  have hf1 : w.drew.frozen? a = false := hf
  have hrun := run_call_store (P := Try.prog) Try.func86 (by kernel_rfl) (by kernel_rfl) (by kernel_rfl) (by kernel_rfl) hc1 hf1 (v := .int .u32 1) rfl
  go_enter Try.func81, Try.ntmps81
  go_region_with (go_at_call 87; refine (b32_true _).mono ?_; rintro e w' ⟨rfl, rfl⟩)
  go_end0
  exact ⟨rfl, rfl⟩

set_option maxHeartbeats 400000 in
theorem mark_load_true (B : Nat) (g : Option Nat) (ks : List Int) (b o T : Nat) (xs : List Value) (w : World) (h : GAtI w B g ks) (hbB : B ≤ w.heap.size) (hl : ks.length ≤ 1000000000) (hb : Blk w b T xs) (h1 : T ≠ TT) (h2 : T ≠ ti) (hx : xs[o]? = some (.int .u32 1)) :
    Calls Try.prog 72 #[.pointer (some ⟨b, o, none⟩), gvI g] w fun e w' => e = .returned (.bool true) ∧ StepI B g w w' (ks ++ [1]) (fun _ => False) := by
  go_enter Try.func72, Try.ntmps72
  go_wp2_with fail
  refine (pass_any B g ks 1 w h hbB hl).mono ?_
  rintro e w1 ⟨rfl, H⟩
  have hb1 := H.blk h hb h1 h2 (fun x => x)
  have hgt := H.gate

  have hc1 : w1.cell? ⟨b, o, none⟩ = some (.int .u32 1) := by rw [hb1.cell o]; exact hx
  have hrun := run_call_load_int (P := Try.prog) Try.func85 (by kernel_rfl) (by kernel_rfl) (by kernel_rfl) .u32 (by kernel_rfl) hc1
  clear h hb hb1 hgt h1 h2 hx hl hbB
  go_wp2
  go_ret
  exact ⟨rfl, H⟩

set_option maxHeartbeats 400000 in
theorem mark_loadn_true (b o T : Nat) (xs : List Value) (w : World) (hb : Blk w b T xs) (hx : xs[o]? = some (.int .u32 1)) :
    Calls Try.prog 72 #[.pointer (some ⟨b, o, none⟩), .nilIface] w fun e w' => e = .returned (.bool true) ∧ w = w' := by
  have hc1 : w.cell? ⟨b, o, none⟩ = some (.int .u32 1) := by rw [hb.cell o]; exact hx
  have hrun := run_call_load_int (P := Try.prog) Try.func85 (by kernel_rfl) (by kernel_rfl) (by kernel_rfl) .u32 (by kernel_rfl) hc1
  clear hb hx
  go_enter Try.func72, Try.ntmps72
  go_wp2_with fail
  refine (pass_nil _ w).mono ?_
  rintro e w1 ⟨rfl, rfl⟩
  go_wp2
  go_ret
  exact ⟨rfl, rfl⟩

set_option maxHeartbeats 400000 in
theorem mark_store_true (B : Nat) (g : Option Nat) (ks : List Int) (b o T : Nat) (xs : List Value) (w : World) (h : GAtI w B g ks) (hbB : B ≤ w.heap.size) (hl : ks.length ≤ 1000000000) (hb : Blk w b T xs) (h1 : T ≠ TT) (h2 : T ≠ ti) (u : Value) (hx : xs[o]? = some u) :
    Calls Try.prog 73 #[.pointer (some ⟨b, o, none⟩), gvI g, .bool true] w fun e w' => e = .returned (.tuple #[]) ∧ StepI B g w w' (ks ++ [2]) (fun k => k = b) ∧ Blk w' b T (xs.set o (.int .u32 1)) := by
  go_enter Try.func73, Try.ntmps73
  go_wp2_with fail
  refine (pass_any B g ks 2 w h hbB hl).mono ?_
  rintro e w1 ⟨rfl, H⟩
  have hb1 := H.blk h hb h1 h2 (fun x => x)
  have hgt := H.gate

  have hc1 : w1.cell? ⟨b, o, none⟩ = some u := by rw [hb1.cell o]; exact hx
  have hf1 : w1.frozen? ⟨b, o, none⟩ = false := hb1.free _ rfl
  have hB : Blk (w1.drew.setCell ⟨b, o, none⟩ (.int .u32 1)) b T (xs.set o (.int .u32 1)) := hb1.drew.set o (.int .u32 1)
  have H2 : StepI B g w (w1.drew.setCell ⟨b, o, none⟩ (.int .u32 1)) (ks ++ [2]) (fun k => k = b) :=
    (H.mono (S' := fun k => k = b) (fun _ _ x => x.elim)).trans (hgt.fr ((Fr.refl w1 (fun k => k = b)).drew.setCell _ _ (fun _ => rfl)) (fun k hk e => hgt.apart hb1 h1 h2 (e ▸ hk))) (fun _ _ x => x)
  clear h hb hb1 hgt H h1 h2 hx hl hbB
  go_wp2_with fail
  refine (bool_store_true _ w1 u hc1 hf1).mono ?_
  rintro e w2 ⟨rfl, rfl⟩
  go_wp2
  go_end0
  exact ⟨rfl, H2, hB⟩
end Go.Proofs.Yteeficpjggimcaa

/-
  Data-records and SCX-records in memory, by the blocks at which they stand. No program in sight.
-/
namespace Go.Proofs.Yteeficpjggimcaa
open Go.RowKit
set_option linter.unusedVariables false

/-- A data-record: what it holds, the block of its fields, its fields' records (blocks), its info, its mark. -/
structure RecO where
  data : List Value
  fb : Nat
  fields : List (Option Nat)
  info : Option Nat
  mark : Bool
def u32b (b : Bool) : Value := .int .u32 (if b then 1 else 0)
def RecO.tail (o : RecO) : List Value := [.slice (some ⟨o.fb, 0, none⟩) o.fields.length o.fields.length, pv o.info, u32b o.mark]
def RecO.cells (o : RecO) : List Value := o.data ++ o.tail
/-- An SCX-record: its three slices as values, where its field is, from what to what, its state, whether all is frozen. -/
structure ScxO where
  sv : Value
  si : Value
  sf : Value
  at_ : Int
  fld : Int
  old : Option Nat
  new : Option Nat
  state : Int
  frozen : Bool
def ScxO.cells (s : ScxO) : List Value := [s.sv, s.si, s.sf, .int .i64 s.at_, .int .i64 s.fld, pv s.old, pv s.new, .int .i64 s.state, u32b s.frozen]

/-- One place of a map is another. -/
def upd {α : Type} (R : Nat → Option α) (b : Nat) (o : α) : Nat → Option α := fun k => if k = b then some o else R k
theorem upd_self {α : Type} (R : Nat → Option α) (b : Nat) (o : α) : upd R b o b = some o := by simp [upd]
theorem upd_ne {α : Type} (R : Nat → Option α) {b k : Nat} (o : α) (h : k ≠ b) : upd R b o k = R k := by simp [upd, h]
theorem upd_cases {α : Type} {R : Nat → Option α} {b k : Nat} {o o' : α} (h : upd R b o k = some o') : (k = b ∧ o' = o) ∨ (k ≠ b ∧ R k = some o') := by
  unfold upd at h
  split at h
  · exact .inl ⟨‹_›, (Option.some.inj h).symm⟩
  · exact .inr ⟨‹_›, h⟩

/-- The memory holds these data-records and SCX-records. TR: the record's type, dl: how many cells its contents have; TC: the fields' cells' type; TX: the SCX-record's type. -/
structure Rep (TR dl TC TX : Nat) (w : World) (R : Nat → Option RecO) (X : Nat → Option ScxO) : Prop where
  recs : ∀ b o, R b = some o → Blk w b TR o.cells ∧ o.data.length = dl
  fld : ∀ b o, R b = some o → Blk w o.fb TC (o.fields.map pv)
  inj : ∀ b o b' o', R b = some o → R b' = some o' → o.fb = o'.fb → b = b'
  scx : ∀ b s, X b = some s → Blk w b TX s.cells
  kf : ∀ b o, R b = some o → ∀ x, some x ∈ o.fields → (R x).isSome
  ki : ∀ b o, R b = some o → ∀ x, o.info = some x → (X x).isSome

/-- x is nil, or one of R. -/
def Ok {α : Type} (R : Nat → Option α) (x : Option Nat) : Prop := ∀ b, x = some b → (R b).isSome
theorem Ok.none {α : Type} (R : Nat → Option α) : Ok R none := fun _ h => by cases h
theorem Ok.of {α : Type} {R : Nat → Option α} {b : Nat} {o : α} (h : R b = some o) : Ok R (some b) := fun b' e => by cases e; simp [h]
theorem Ok.upd {α : Type} {R : Nat → Option α} {x : Option Nat} (h : Ok R x) (b : Nat) (o : α) : Ok (upd R b o) x := fun b' e => by
  have := h b' e
  unfold Go.Proofs.Yteeficpjggimcaa.upd
  split <;> simp_all

section
variable {TR dl TC TX : Nat} {w w' : World} {R : Nat → Option RecO} {X : Nat → Option ScxO}
theorem RecO.cells_length (o : RecO) : o.cells.length = o.data.length + 3 := by simp [RecO.cells, RecO.tail]
theorem Rep.recPtr (h : Rep TR dl TC TX w R X) {x : Option Nat} (hx : Ok R x) : PtrTo TR (dl + 3) w x := fun b e => by
  obtain ⟨o, ho⟩ := Option.isSome_iff_exists.1 (hx b e)
  obtain ⟨hb, hl⟩ := h.recs b o ho
  exact ⟨_, hb, by rw [RecO.cells_length, hl]⟩
theorem Rep.scxPtr (h : Rep TR dl TC TX w R X) {x : Option Nat} (hx : Ok X x) : PtrTo TX 9 w x := fun b e => by
  obtain ⟨s, hs⟩ := Option.isSome_iff_exists.1 (hx b e)
  exact ⟨_, h.scx b s hs, rfl⟩
theorem Rep.okField (h : Rep TR dl TC TX w R X) {b : Nat} {o : RecO} (ho : R b = some o) {i : Nat} {p : Option Nat} (hp : o.fields[i]? = some p) : Ok R p := fun x e => by
  subst e
  exact h.kf b o ho x (List.mem_of_getElem? hp)
theorem Rep.okInfo (h : Rep TR dl TC TX w R X) {b : Nat} {o : RecO} (ho : R b = some o) : Ok X o.info := fun x e => h.ki b o ho x e
/-- The cells of a record. -/
theorem Rep.cell (h : Rep TR dl TC TX w R X) {b : Nat} {o : RecO} (ho : R b = some o) (j : Nat) : w.cell? ⟨b, dl + j, none⟩ = o.tail[j]? := by
  obtain ⟨hb, hl⟩ := h.recs b o ho
  rw [hb.cell, ← hl, RecO.cells, List.getElem?_append_right (by omega)]
  congr 1; omega
theorem Rep.at_ (h : Rep TR dl TC TX w R X) {b : Nat} {o : RecO} (ho : R b = some o) (j : Nat) : o.cells[dl + j]? = o.tail[j]? := by
  obtain ⟨hb, hl⟩ := h.recs b o ho
  rw [← hl, RecO.cells, List.getElem?_append_right (by omega)]
  congr 1; omega
theorem RecO.set_tail (o : RecO) (hl : o.data.length = dl) (j : Nat) (v : Value) : o.cells.set (dl + j) v = o.data ++ o.tail.set j v := by
  subst hl
  rw [RecO.cells, List.set_append_right _ _ (by omega)]
  congr 2; omega
/-- Other blocks have turned. -/
theorem Rep.fr (h : Rep TR dl TC TX w R X) {S : Nat → Prop} (hf : Fr w w' S) (hR : ∀ b o, R b = some o → ¬ S b ∧ ¬ S o.fb) (hX : ∀ b s, X b = some s → ¬ S b) : Rep TR dl TC TX w' R X :=
  ⟨fun b o ho => ⟨hf.blk (h.recs b o ho).1 (hR b o ho).1, (h.recs b o ho).2⟩, fun b o ho => hf.blk (h.fld b o ho) (hR b o ho).2, h.inj, fun b s hs => hf.blk (h.scx b s hs) (hX b s hs), h.kf, h.ki⟩
theorem Rep.below (h : Rep TR dl TC TX w R X) (hb : Below w.heap.size w w') : Rep TR dl TC TX w' R X :=
  h.fr (S := fun _ => False) (Fr.of_below0 hb) (fun _ _ _ => ⟨id, id⟩) (fun _ _ _ => id)
/-- Blocks of other types have turned. -/
theorem Rep.types (h : Rep TR dl TC TX w R X) {S : Nat → Prop} (hf : Fr w w' S) (hS : ∀ k, S k → ∃ T ys, Blk w k T ys ∧ T ≠ TR ∧ T ≠ TC ∧ T ≠ TX) : Rep TR dl TC TX w' R X := by
  refine h.fr hf (fun b o ho => ⟨fun hs => ?_, fun hs => ?_⟩) (fun b s hs' hs => ?_)
  · obtain ⟨T, ys, hb, h1, _⟩ := hS _ hs
    exact h1 (hb.inj (h.recs b o ho).1).1
  · obtain ⟨T, ys, hb, _, h1, _⟩ := hS _ hs
    exact h1 (hb.inj (h.fld b o ho)).1
  · obtain ⟨T, ys, hb, _, _, h1⟩ := hS _ hs
    exact h1 (hb.inj (h.scx b s hs')).1
theorem Rep.empty (TR dl TC TX : Nat) (w : World) : Rep TR dl TC TX w (fun _ => none) (fun _ => none) := ⟨(fun _ _ h => by cases h), (fun _ _ h => by cases h), (fun _ _ _ _ h => by cases h), (fun _ _ h => by cases h), (fun _ _ h => by cases h), (fun _ _ h => by cases h)⟩
variable {TT ti B : Nat} {g : Option Nat} {ks ks' : List Int}
/-- The types of these blocks are none of a tape's. -/
structure Tys (TR TC TX TT ti : Nat) : Prop where
  r1 : TR ≠ TT
  r2 : TR ≠ ti
  c1 : TC ≠ TT
  c2 : TC ≠ ti
  x1 : TX ≠ TT
  x2 : TX ≠ ti
  rc : TR ≠ TC
  rx : TR ≠ TX
  cx : TC ≠ TX
theorem Rep.step (h : Rep TR dl TC TX w R X) (ht : Tys TR TC TX TT ti) (hg : GAt TT ti w B g ks) (hs : Step TT ti B g w w' ks' (fun _ => False)) : Rep TR dl TC TX w' R X :=
  ⟨fun b o ho => ⟨hs.blk hg (h.recs b o ho).1 ht.r1 ht.r2 id, (h.recs b o ho).2⟩, fun b o ho => hs.blk hg (h.fld b o ho) ht.c1 ht.c2 id, h.inj, fun b s hs' => hs.blk hg (h.scx b s hs') ht.x1 ht.x2 id, h.kf, h.ki⟩
/-- One record's fields have turned. -/
theorem Rep.setFields (h : Rep TR dl TC TX w R X) (ht : Tys TR TC TX TT ti) (hg : GAt TT ti w B g ks) {b : Nat} {o : RecO} (ho : R b = some o) (hs : Step TT ti B g w w' ks' (fun k => k = o.fb))
    {fs : List (Option Nat)} (hl : fs.length = o.fields.length) (hb : Blk w' o.fb TC (fs.map pv)) (hk : ∀ x, some x ∈ fs → (R x).isSome) : Rep TR dl TC TX w' (upd R b { o with fields := fs }) X := by
  have hne : ∀ {k T xs}, Blk w k T xs → T ≠ TC → k ≠ o.fb := fun hk hT e => by
    subst e
    exact hT (hk.inj (h.fld b o ho)).1
  refine ⟨fun k o' ho' => ?_, fun k o' ho' => ?_, fun k o' k' o'' h1 h2 he => ?_, fun k s hs' => ?_, fun k o' ho' x hx => ?_, fun k o' ho' x hx => ?_⟩
  · rcases upd_cases ho' with ⟨rfl, rfl⟩ | ⟨_, ho'⟩
    · obtain ⟨hb0, hl0⟩ := h.recs _ _ ho
      have hc : RecO.cells { o with fields := fs } = o.cells := by simp [RecO.cells, RecO.tail, hl]
      rw [hc]
      exact ⟨hs.blk hg hb0 ht.r1 ht.r2 (hne hb0 ht.rc), hl0⟩
    · obtain ⟨hb0, hl0⟩ := h.recs _ _ ho'
      exact ⟨hs.blk hg hb0 ht.r1 ht.r2 (hne hb0 ht.rc), hl0⟩
  · rcases upd_cases ho' with ⟨rfl, rfl⟩ | ⟨hkb, ho'⟩
    · exact hb
    · exact hs.blk hg (h.fld _ _ ho') ht.c1 ht.c2 (fun e => hkb (h.inj _ _ _ _ ho' ho e))
  · rcases upd_cases h1 with ⟨rfl, rfl⟩ | ⟨n1, j1⟩ <;> rcases upd_cases h2 with ⟨rfl, rfl⟩ | ⟨n2, j2⟩
    · rfl
    · exact h.inj _ _ _ _ ho j2 he
    · exact h.inj _ _ _ _ j1 ho he
    · exact h.inj _ _ _ _ j1 j2 he
  · exact hs.blk hg (h.scx _ _ hs') ht.x1 ht.x2 (hne (h.scx _ _ hs') ht.cx.symm)
  · have hs2 : ∀ x, (R x).isSome → (upd R b { o with fields := fs } x).isSome := fun x hx => by
      unfold upd; split <;> simp_all
    rcases upd_cases ho' with ⟨rfl, rfl⟩ | ⟨_, ho'⟩
    · exact hs2 x (hk x hx)
    · exact hs2 x (h.kf _ _ ho' x hx)
  · rcases upd_cases ho' with ⟨rfl, rfl⟩ | ⟨_, ho'⟩
    · exact h.ki _ _ ho x hx
    · exact h.ki _ _ ho' x hx
/-- One record's own block has turned: its info, or its mark. -/
theorem Rep.setRec (h : Rep TR dl TC TX w R X) (ht : Tys TR TC TX TT ti) (hg : GAt TT ti w B g ks) {b : Nat} {o : RecO} (ho : R b = some o) (hs : Step TT ti B g w w' ks' (fun k => k = b))
    {o' : RecO} (hd' : o'.data = o.data) (hfb : o'.fb = o.fb) (hfs : o'.fields = o.fields) (hb : Blk w' b TR o'.cells) (hk : Ok X o'.info) : Rep TR dl TC TX w' (upd R b o') X := by
  have hne : ∀ {k T xs}, Blk w k T xs → T ≠ TR → k ≠ b := fun hk hT e => by
    subst e
    exact hT (hk.inj (h.recs _ _ ho).1).1
  refine ⟨fun k o1 ho' => ?_, fun k o1 ho' => ?_, fun k o1 k' o2 h1 h2 he => ?_, fun k s hs' => ?_, fun k o1 ho' x hx => ?_, fun k o1 ho' x hx => ?_⟩
  · rcases upd_cases ho' with ⟨rfl, rfl⟩ | ⟨hkb, ho'⟩
    · exact ⟨hb, by rw [hd']; exact (h.recs _ _ ho).2⟩
    · exact ⟨hs.blk hg (h.recs _ _ ho').1 ht.r1 ht.r2 hkb, (h.recs _ _ ho').2⟩
  · rcases upd_cases ho' with ⟨rfl, rfl⟩ | ⟨hkb, ho'⟩
    · rw [hfb, hfs]
      exact hs.blk hg (h.fld _ _ ho) ht.c1 ht.c2 (hne (h.fld _ _ ho) ht.rc.symm)
    · exact hs.blk hg (h.fld _ _ ho') ht.c1 ht.c2 (hne (h.fld _ _ ho') ht.rc.symm)
  · rcases upd_cases h1 with ⟨rfl, rfl⟩ | ⟨n1, j1⟩ <;> rcases upd_cases h2 with ⟨rfl, rfl⟩ | ⟨n2, j2⟩
    · rfl
    · exact h.inj _ _ _ _ ho j2 (by rw [← hfb]; exact he)
    · exact h.inj _ _ _ _ j1 ho (by rw [← hfb]; exact he)
    · exact h.inj _ _ _ _ j1 j2 he
  · exact hs.blk hg (h.scx _ _ hs') ht.x1 ht.x2 (hne (h.scx _ _ hs') ht.rx.symm)
  · have hs2 : ∀ x, (R x).isSome → (upd R b o' x).isSome := fun x hx => by
      unfold upd; split <;> simp_all
    rcases upd_cases ho' with ⟨rfl, rfl⟩ | ⟨_, ho'⟩
    · rw [hfs] at hx; exact hs2 x (h.kf _ _ ho x hx)
    · exact hs2 x (h.kf _ _ ho' x hx)
  · rcases upd_cases ho' with ⟨rfl, rfl⟩ | ⟨_, ho'⟩
    · exact hk x hx
    · exact h.ki _ _ ho' x hx
/-- One SCX-record has turned. -/
theorem Rep.setScx (h : Rep TR dl TC TX w R X) (ht : Tys TR TC TX TT ti) (hg : GAt TT ti w B g ks) {b : Nat} {s : ScxO} (hso : X b = some s) (hs : Step TT ti B g w w' ks' (fun k => k = b))
    {s' : ScxO} (hb : Blk w' b TX s'.cells) : Rep TR dl TC TX w' R (upd X b s') := by
  have hne : ∀ {k T xs}, Blk w k T xs → T ≠ TX → k ≠ b := fun hk hT e => by
    subst e
    exact hT (hk.inj (h.scx _ _ hso)).1
  refine ⟨fun k o1 ho' => ⟨hs.blk hg (h.recs _ _ ho').1 ht.r1 ht.r2 (hne (h.recs _ _ ho').1 ht.rx), (h.recs _ _ ho').2⟩, fun k o1 ho' => hs.blk hg (h.fld _ _ ho') ht.c1 ht.c2 (hne (h.fld _ _ ho') ht.cx), h.inj, fun k s1 hs' => ?_, h.kf, fun k o1 ho' x hx => ?_⟩
  · rcases upd_cases hs' with ⟨rfl, rfl⟩ | ⟨hkb, hs'⟩
    · exact hb
    · exact hs.blk hg (h.scx _ _ hs') ht.x1 ht.x2 hkb
  · have := h.ki _ _ ho' x hx
    unfold upd
    split <;> simp_all
/-- A new record, with its own first SCX-record. -/
theorem Rep.addRec (h : Rep TR dl TC TX w R X) (hbel : Below w.heap.size w w') {b fb : Nat} {o : RecO} (hb : w.heap.size ≤ b) (hfb : w.heap.size ≤ o.fb) (hr : Blk w' b TR o.cells) (hd' : o.data.length = dl)
    (hf : Blk w' o.fb TC (o.fields.map pv)) (hk : ∀ x, some x ∈ o.fields → (R x).isSome) {xb : Nat} {s : ScxO} (hi : o.info = some xb) (hx : w.heap.size ≤ xb) (hs : Blk w' xb TX s.cells) :
    Rep TR dl TC TX w' (upd R b o) (upd X xb s) := by
  have h' := h.below hbel
  have old : ∀ {k o1}, R k = some o1 → k < w.heap.size ∧ o1.fb < w.heap.size := fun h1 => ⟨(h.recs _ _ h1).1.lt, (h.fld _ _ h1).lt⟩
  refine ⟨fun k o1 ho' => ?_, fun k o1 ho' => ?_, fun k o1 k' o2 h1 h2 he => ?_, fun k s1 hs' => ?_, fun k o1 ho' x hx => ?_, fun k o1 ho' x hx' => ?_⟩
  · rcases upd_cases ho' with ⟨rfl, rfl⟩ | ⟨_, ho'⟩
    · exact ⟨hr, hd'⟩
    · exact h'.recs _ _ ho'
  · rcases upd_cases ho' with ⟨rfl, rfl⟩ | ⟨_, ho'⟩
    · exact hf
    · exact h'.fld _ _ ho'
  · rcases upd_cases h1 with ⟨rfl, rfl⟩ | ⟨n1, j1⟩ <;> rcases upd_cases h2 with ⟨rfl, rfl⟩ | ⟨n2, j2⟩
    · rfl
    · have := (old j2).2; omega
    · have := (old j1).2; omega
    · exact h.inj _ _ _ _ j1 j2 he
  · rcases upd_cases hs' with ⟨rfl, rfl⟩ | ⟨_, hs'⟩
    · exact hs
    · exact h'.scx _ _ hs'
  · have hs2 : ∀ x, (R x).isSome → (upd R b o x).isSome := fun x hx => by
      unfold upd; split <;> simp_all
    rcases upd_cases ho' with ⟨rfl, rfl⟩ | ⟨_, ho'⟩
    · exact hs2 x (hk x hx)
    · exact hs2 x (h.kf _ _ ho' x hx)
  · rcases upd_cases ho' with ⟨rfl, rfl⟩ | ⟨_, ho'⟩
    · rw [hi] at hx'; cases hx'; simp [upd]
    · have := h.ki _ _ ho' x hx'
      unfold upd; split <;> simp_all
/-- A new SCX-record. -/
theorem Rep.addScx (h : Rep TR dl TC TX w R X) (hbel : Below w.heap.size w w') {xb : Nat} {s : ScxO} (hs : Blk w' xb TX s.cells) : Rep TR dl TC TX w' R (upd X xb s) := by
  have h' := h.below hbel
  refine ⟨h'.recs, h'.fld, h'.inj, fun k s1 hs' => ?_, h.kf, fun k o1 ho' x hx' => ?_⟩
  · rcases upd_cases hs' with ⟨rfl, rfl⟩ | ⟨_, hs'⟩
    · exact hs
    · exact h'.scx _ _ hs'
  · have := h.ki _ _ ho' x hx'
    unfold upd; split <;> simp_all
end
end Go.Proofs.Yteeficpjggimcaa
