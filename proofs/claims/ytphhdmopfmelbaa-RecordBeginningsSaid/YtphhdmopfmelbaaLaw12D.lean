/- larchlaw12: the program's Play on a world and acts of the statement: what goes on in one statement. -/
import Derived.Test.YtphhdmopfmelbaaLaw12C
import Derived.Test.YtphhdmopfmelbaaFlow
namespace Go.Proofs.Ytphhdmopfmelbaa
open Go.RowKit Go.Proofs.YtphhdmopfmelbaaW.PrintWords Go.Proofs.YtphhdmopfmelbaaW.PrintLast
set_option linter.unusedVariables false
set_option linter.unusedSimpArgs false

/-- Play's good answer. -/
def PlayV (B : Nat) (d : WD) (l : List ActD) (v : Value) (w : World) : Prop := ∃ ov kv fv iv mv sv zv bs, v = .tuple #[ov, .agg #[fv, iv, mv, sv, zv], kv, .int .i64 0] ∧ PlayOut B d l ov fv iv mv sv zv kv bs w
theorem PlayOut.fr {B : Nat} {d : WD} {l : List ActD} {ov fv iv mv sv zv kv : Value} {bs : List Value} {w w' : World} (h : PlayOut B d l ov fv iv mv sv zv kv bs w) {S : Nat → Prop} (hf : Fr w w' S) (hS : ∀ k, S k → ∃ T ys, Blk w k T ys ∧ T ≠ TRI ∧ T ≠ TII ∧ T ≠ TBB) : PlayOut B d l ov fv iv mv sv zv kv bs w' := by
  have key : ∀ {n : Nat} {v : Value} {us : List Value}, w.ownsRow B TII 1 v n us → w'.ownsRow B TII 1 v n us := fun ho => owns_fr ho hf (fun k hk hs => by
    obtain ⟨c, hc⟩ := owns_typed ho k hk
    obtain ⟨T, ys, hb, _, h2, _⟩ := hS k hs
    exact h2 (hb.inj hc).1)
  exact ⟨key h.out, h.wld.other hf hS, key h.kin, h.d1, h.d2, h.d3⟩
theorem PlayOut.below {B : Nat} {d : WD} {l : List ActD} {ov fv iv mv sv zv kv : Value} {bs : List Value} {w w' : World} (h : PlayOut B d l ov fv iv mv sv zv kv bs w) (hb : Below w.heap.size w w') : PlayOut B d l ov fv iv mv sv zv kv bs w' := h.fr (S := fun _ => False) (Fr.of_below0 hb) (fun _ h => h.elim)
theorem PlayV.below {B : Nat} {d : WD} {l : List ActD} {v : Value} {w w' : World} (h : PlayV B d l v w) (hb : Below w.heap.size w w') : PlayV B d l v w' := by
  obtain ⟨ov, kv, fv, iv, mv, sv, zv, bs, e, ho⟩ := h
  exact ⟨ov, kv, fv, iv, mv, sv, zv, bs, e, ho.below hb⟩
theorem PlayV.store {B : Nat} {d : WD} {l : List ActD} {v : Value} {w w' : World} (h : PlayV B d l v w) {g T : Nat} {ys : List Value} (hg : Blk w g T ys) (h1 : T ≠ TRI) (h2 : T ≠ TII) (h3 : T ≠ TBB) (hf : Fr w w' (fun k => k = g)) : PlayV B d l v w' := by
  obtain ⟨ov, kv, fv, iv, mv, sv, zv, bs, e, ho⟩ := h
  exact ⟨ov, kv, fv, iv, mv, sv, zv, bs, e, ho.fr hf (fun k hk => ⟨T, ys, hk ▸ hg, h1, h2, h3⟩)⟩
theorem play_lower {B B' : Nat} {d : WD} {l : List ActD} {ov fv iv mv sv zv kv : Value} {bs : List Value} {w : World} (h : PlayOut B' d l ov fv iv mv sv zv kv bs w) (hB : B ≤ B') : PlayOut B d l ov fv iv mv sv zv kv bs w :=
  ⟨own_weaken h.out hB, h.wld.lower hB, own_weaken h.kin hB, h.d1, h.d2, h.d3⟩
theorem law_acts' (w : World) (A : Option Addr) (c n : Nat) (l : List ActD) (hn : l.length = n) (ha : ActsAt w A l) (hl : l.length ≤ 1000000000) :
    Calls Try.prog 19 #[.slice A n c] w fun e w' => ∃ v, e = .returned v ∧ w'.ownsRow w.heap.size TAC 5 v l.length (l.flatMap ActD.cells) ∧ Below w.heap.size w w' := by
  subst hn
  exact law_acts w A c l ha hl
/-- The refused answer. -/
abbrev refV (E : Int) : Value := .tuple #[nilV, nilW, nilV, .int .i64 E]
/-- What one Play has left: its world's block, its answers; the statement's own block. -/
structure Left1 (wB : World) (pb : Nat) (cs : List Value) (g B : Nat) (d : WD) (l : List ActD) (ov fv iv mv sv zv kv : Value) (bs : List Value) (w : World) : Prop where
  old : Below wB.heap.size wB w
  par : Blk w pb TCA cs
  box : Blk w g TWD [fv, iv, mv, sv, zv]
  out : PlayOut B d l ov fv iv mv sv zv kv bs w
  lo : wB.heap.size ≤ B
theorem Left1.below {wB : World} {pb : Nat} {cs : List Value} {g B : Nat} {d : WD} {l : List ActD} {ov fv iv mv sv zv kv : Value} {bs : List Value} {w w' : World} (h : Left1 wB pb cs g B d l ov fv iv mv sv zv kv bs w) (hb : Below w.heap.size w w') : Left1 wB pb cs g B d l ov fv iv mv sv zv kv bs w' :=
  ⟨h.old.trans (hb.mono h.old.size), (Fr.of_below0 (S := fun _ => False) hb).blk h.par id, (Fr.of_below0 (S := fun _ => False) hb).blk h.box id, h.out.below hb, h.lo⟩
/-- A tuple's part. -/
def tpart (k : Nat) : Value → Value
  | .tuple a => a.getD k undef
  | _ => undef
/-- The cells of a world's value. -/
def cellsW : Value → List Value
  | .agg a => a.toList
  | _ => []
theorem below_allocB {B : Nat} {w w' : World} (h : Below B w w') (hB : B ≤ w'.heap.size) (o : Obj) : Below B w (w'.alloc o) := h.alloc hB o
theorem below_alloc' {w w' : World} (h : Below w.heap.size w w') (o : Obj) : Below w.heap.size w (w'.alloc o) := h.alloc h.size o
/-- append of a row that is read to a row of one's own. -/
theorem run_append_row {P : Program} {w : World} (t ty e : TypeId) (z : Value) (bytes : Nat) (ht : P.underlying t = some (.slice e)) (hinfo : (P.info? e).map (fun i => (i.zero, i.size, i.bytes)) = some (some z, 1, bytes)) (hz : z.cells.size = 1) {base n : Nat} {v : Value} {xs : List Value} (hv : w.ownsRow base e 1 v n xs)
    {A : Option Addr} {m c : Nat} {us : List Value} (hr : Row1 w A m us) (h1 : ∀ u ∈ us, u.oneCell' = true) (h63 : n + m ≤ maxLen) (hb : (n + m) * bytes ≤ 140737488355328) (hbase : base ≤ w.heap.size) :
    ∃ v' w', (Builtin.append_ #[t, t] ty #[v, .slice A m c]).run P w = .ok v' w' ∧ w.grownBy w' v.ownBlock ∧ w'.ownsRow base e 1 v' (n + m) (xs ++ us) := by
  obtain ⟨i0, hi, hzz⟩ := Option.map_eq_some_iff.1 hinfo
  simp only [Prod.mk.injEq] at hzz
  obtain ⟨hz0, hz1, hz2⟩ := hzz
  rcases Nat.eq_zero_or_pos m with rfl | hm
  · have hus : us = [] := List.eq_nil_of_length_eq_zero hr.1
    subst hus
    refine ⟨v, w, ?_, ⟨rfl, rfl, rfl, Nat.le_refl _, fun _ _ _ => rfl⟩, by simpa using hv⟩
    rcases hv.2 with ⟨rfl, rfl⟩ | ⟨g, cap, cur, rfl, _, _, hnc, _⟩ <;> cases A <;>
      simp [Builtin.append_, run_underlying ht, sizeOf, typeInfo, hi, Builtin.lenOf, Builtin.firstCells, storeCells, loadCells, loadCellsFrom, hz1, Result.andThen, *]
  · obtain ⟨ad, rfl, hc⟩ := hr.2 hm
    obtain ⟨v', w', hrun, hown, hg, _, _⟩ := run_append_own_at (P := P) w base t ty e i0 z 1 bytes ht hi hz0 hz1 hz2 hz (by decide) v n xs hv ad m c us (by have := hr.1; omega) hc h1 h63 hb hbase
    exact ⟨v', w', hrun, hg, hown⟩
end Go.Proofs.Ytphhdmopfmelbaa
