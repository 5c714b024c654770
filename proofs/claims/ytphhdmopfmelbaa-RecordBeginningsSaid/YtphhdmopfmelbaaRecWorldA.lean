/- record: world(): what holds while it goes; the cut. -/
import Derived.Test.YtphhdmopfmelbaaRecOut
import Derived.Deep.RegionLaw
namespace Go.Proofs.Ytphhdmopfmelbaa
open Go.RowKit Go.Proofs.YtphhdmopfmelbaaW.PrintWords
set_option linter.unusedVariables false
set_option linter.unusedSimpArgs false

theorem pinfo_int : (Try.prog.info? 3).map (fun i => (i.zero, i.size, i.bytes)) = some (some (.int .i64 0), 1, 8) := by kernel_rfl
theorem pinfo_bool : (Try.prog.info? 4).map (fun i => (i.zero, i.size, i.bytes)) = some (some (.bool false), 1, 1) := by kernel_rfl
theorem pinfo_row : (Try.prog.info? 23).map (fun i => (i.zero, i.size, i.bytes)) = some (some (.slice none 0 0), 1, 24) := by kernel_rfl

/-- A region's ways are brought together: behind each the frame is F of an append's slice, the world as N has it. -/
def CutQ (F : Option Addr → Nat → Act) (N : Option Addr → Nat → World → Prop) : Exit → Act → World → Prop
  | .normal, a', w' => ∃ A k, a' = F A k ∧ N A k w'
  | _, _, _ => False
theorem cut_post {P : Program} {c : Code} {Q : Exit → Act → World → Prop} {a : Act} {w : World} {F : Option Addr → Nat → Act} (N : Option Addr → Nat → World → Prop) (h1 : c.wp P (CutQ F N) a w)
    (h2 : ∀ A k w', N A k w' → Q .normal (F A k) w') : c.wp P Q a w :=
  Code.wp_mono (fun e a' w' h => by
    cases e <;> first | exact (h : False).elim | skip
    obtain ⟨A, k, rfl, hn⟩ := h
    exact h2 A k w' hn) h1

/-- What world() holds between two statements: its result's cells, its variable's cells, the world so far. -/
structure WAt (w0 : World) (d : WD) (fv iv mv sv zv : Value) (us : List Value) (w : World) : Prop where
  below : Below w0.heap.size w0 w
  res : Blk w w0.heap.size TWD [.slice none 0 0, .slice none 0 0, .slice none 0 0, .slice none 0 0, .slice none 0 0]
  box : Blk w (w0.heap.size + 1) TWD [fv, iv, mv, sv, zv]
  out : OutW w0.heap.size d fv iv mv sv zv us w
section
variable {w0 w w1 w' : World} {d : WD} {fv iv mv sv zv v' : Value} {us : List Value}
theorem WAt.fr (h : WAt w0 d fv iv mv sv zv us w) {nb : Nat} (hf : Fr w w' (fun k => k = nb)) {T : Nat} {ys : List Value} (hb : Blk w nb T ys) (hT : T ≠ TWD) (hn : ¬ OutFoot fv iv mv sv zv us nb) (hlo : w0.heap.size ≤ nb) : WAt w0 d fv iv mv sv zv us w' :=
  ⟨h.below.trans (hf.below h.below.size (fun k hk => hk ▸ hlo)), hf.blk h.res (fun e => by subst e; exact hT (hb.inj h.res).1), hf.blk h.box (fun e => by subst e; exact hT (hb.inj h.box).1), h.out.fr hf (fun k hk e => by subst e; exact hn hk)⟩
theorem WAt.more (h : WAt w0 d fv iv mv sv zv us w) (hb : Below w.heap.size w w') : WAt w0 d fv iv mv sv zv us w' :=
  ⟨h.below.trans (hb.mono h.below.size), (Fr.of_below0 (S := fun _ => False) hb).blk h.res id, (Fr.of_below0 (S := fun _ => False) hb).blk h.box id, h.out.below hb⟩
theorem WAt.drew (h : WAt w0 d fv iv mv sv zv us w) : WAt w0 d fv iv mv sv zv us w.drew := h.more (Below.refl _ _).drew
/-- An append, and the store of what it gave. -/
theorem WAt.pushed (h : WAt w0 d fv iv mv sv zv us w) {u : Value} {e n : Nat} {ys : List Value} (ho : w.ownsRow w0.heap.size e 1 u n ys) (he : e ≠ TWD) (hg : w.grownBy w1 u.ownBlock) (j : Nat) :
    Below w0.heap.size w0 (w1.setCell ⟨w0.heap.size + 1, j, none⟩ v') ∧ Blk (w1.setCell ⟨w0.heap.size + 1, j, none⟩ v') w0.heap.size TWD [.slice none 0 0, .slice none 0 0, .slice none 0 0, .slice none 0 0, .slice none 0 0] ∧
    Blk (w1.setCell ⟨w0.heap.size + 1, j, none⟩ v') (w0.heap.size + 1) TWD ([fv, iv, mv, sv, zv].set j v') ∧ ∀ {fv iv mv sv zv us d}, OutW w0.heap.size d fv iv mv sv zv us w1 → OutW w0.heap.size d fv iv mv sv zv us (w1.setCell ⟨w0.heap.size + 1, j, none⟩ v') := by
  have hf := Fr.of_grown hg
  have hne : ∀ {k ys}, Blk w k TWD ys → ¬ some k = u.ownBlock := fun hb e2 => by
    obtain ⟨c, hc⟩ := owns_typed ho _ e2.symm
    exact he ((show Blk w _ e c from hc).inj hb).1
  have hb1 := hf.blk h.box (hne h.box)
  have hs : Fr w1 (w1.setCell ⟨w0.heap.size + 1, j, none⟩ v') (fun k => k = w0.heap.size + 1) := (Fr.refl w1 _).setCell _ _ (fun _ => rfl)
  refine ⟨(h.below.trans (hf.below h.below.size (fun k hk => (World.ownsRow.lt ho k hk.symm).1))).trans (hs.below ?_ (fun k hk => by omega)), hs.blk (hf.blk h.res (hne h.res)) (by omega), hb1.set j v', fun ho2 => ho2.other hs (fun k hk => ⟨TWD, _, hk ▸ hb1, by decide, by decide, by decide⟩)⟩
  have := h.below.size; have := hf.size; omega
theorem WAt.pushI (h : WAt w0 d fv iv mv sv zv us w) (hg : w.grownBy w1 iv.ownBlock) {n : Int} (ho : w1.ownsRow w0.heap.size TII 1 v' (d.infos.length + 1) (d.infos.map (Value.int .i64) ++ [.int .i64 n]))
    (hat : v'.ownBlock = iv.ownBlock ∨ ∃ b, v'.ownBlock = some b ∧ w.heap.size ≤ b) : WAt w0 { d with infos := d.infos ++ [n] } fv v' mv sv zv us (w1.setCell ⟨w0.heap.size + 1, 1, none⟩ v') :=
  let ⟨a, b, c, e⟩ := h.pushed h.out.i (by decide) hg 1
  ⟨a, b, c, e (h.out.pushI hg ho hat)⟩
theorem WAt.pushM (h : WAt w0 d fv iv mv sv zv us w) (hg : w.grownBy w1 mv.ownBlock) {n : Bool} (ho : w1.ownsRow w0.heap.size TBB 1 v' (d.marks.length + 1) (d.marks.map Value.bool ++ [.bool n]))
    (hat : v'.ownBlock = mv.ownBlock ∨ ∃ b, v'.ownBlock = some b ∧ w.heap.size ≤ b) : WAt w0 { d with marks := d.marks ++ [n] } fv iv v' sv zv us (w1.setCell ⟨w0.heap.size + 1, 2, none⟩ v') :=
  let ⟨a, b, c, e⟩ := h.pushed h.out.m (by decide) hg 2
  ⟨a, b, c, e (h.out.pushM hg ho hat)⟩
theorem WAt.pushS (h : WAt w0 d fv iv mv sv zv us w) (hg : w.grownBy w1 sv.ownBlock) {n : Int} (ho : w1.ownsRow w0.heap.size TII 1 v' (d.states.length + 1) (d.states.map (Value.int .i64) ++ [.int .i64 n]))
    (hat : v'.ownBlock = sv.ownBlock ∨ ∃ b, v'.ownBlock = some b ∧ w.heap.size ≤ b) : WAt w0 { d with states := d.states ++ [n] } fv iv mv v' zv us (w1.setCell ⟨w0.heap.size + 1, 3, none⟩ v') :=
  let ⟨a, b, c, e⟩ := h.pushed h.out.s (by decide) hg 3
  ⟨a, b, c, e (h.out.pushS hg ho hat)⟩
theorem WAt.pushZ (h : WAt w0 d fv iv mv sv zv us w) (hg : w.grownBy w1 zv.ownBlock) {n : Bool} (ho : w1.ownsRow w0.heap.size TBB 1 v' (d.frozen.length + 1) (d.frozen.map Value.bool ++ [.bool n]))
    (hat : v'.ownBlock = zv.ownBlock ∨ ∃ b, v'.ownBlock = some b ∧ w.heap.size ≤ b) : WAt w0 { d with frozen := d.frozen ++ [n] } fv iv mv sv v' us (w1.setCell ⟨w0.heap.size + 1, 4, none⟩ v') :=
  let ⟨a, b, c, e⟩ := h.pushed h.out.z (by decide) hg 4
  ⟨a, b, c, e (h.out.pushZ hg ho hat)⟩
theorem WAt.pushF (h : WAt w0 d fv iv mv sv zv us w) (hg : w.grownBy w1 fv.ownBlock) {u : Value} {r : List Int} (hu : w.ownsRow w0.heap.size TII 1 u r.length (r.map (Value.int .i64))) (hn : ∀ k, u.ownBlock = some k → ¬ OutFoot fv iv mv sv zv us k)
    (ho : w1.ownsRow w0.heap.size TRI 1 v' (d.fields.length + 1) (us ++ [u])) : WAt w0 { d with fields := d.fields ++ [r] } v' iv mv sv zv (us ++ [u]) (w1.setCell ⟨w0.heap.size + 1, 0, none⟩ v') :=
  let ⟨a, b', c, e⟩ := h.pushed h.out.f (by decide) hg 0
  ⟨a, b', c, e (h.out.pushF hg hu hn ho)⟩
end
/-- Behind the append the variable's cells are as they were. -/
theorem WAt.after {w0 w w1 : World} {d : WD} {fv iv mv sv zv v' x : Value} {us : List Value} (h : WAt w0 d fv iv mv sv zv us w) {u : Value} {e n n' : Nat} {ys ys' : List Value} (ho : w.ownsRow w0.heap.size e 1 u n ys) (he : TWD ≠ e) (hg : w.grownBy w1 u.ownBlock) {j : Nat} (hx : [fv, iv, mv, sv, zv][j]? = some x)
    (ho' : w1.ownsRow w0.heap.size e 1 v' n' ys') : w1.cell? ⟨w0.heap.size + 1, j, none⟩ = some x ∧ w1.frozen? ⟨w0.heap.size + 1, j, none⟩ = false ∧ ∃ A c, v' = .slice A n' c := after_append h.box ho he hg hx n' ho'
theorem WAt.start (w : World) : WAt w ⟨[], [], [], [], []⟩ (.slice none 0 0) (.slice none 0 0) (.slice none 0 0) (.slice none 0 0) (.slice none 0 0) []
    ((w.alloc (.cells #[.slice none 0 0, .slice none 0 0, .slice none 0 0, .slice none 0 0, .slice none 0 0] TWD)).alloc (.cells #[.slice none 0 0, .slice none 0 0, .slice none 0 0, .slice none 0 0, .slice none 0 0] TWD)) := by
  refine ⟨((Below.refl w.heap.size w).alloc (Nat.le_refl _) _).alloc (by simp) _, (Blk.new w TWD [.slice none 0 0, .slice none 0 0, .slice none 0 0, .slice none 0 0, .slice none 0 0]).alloc _, ?_, OutW.empty _ _⟩
  have := Blk.new (w.alloc (.cells #[.slice none 0 0, .slice none 0 0, .slice none 0 0, .slice none 0 0, .slice none 0 0] TWD)) TWD [.slice none 0 0, .slice none 0 0, .slice none 0 0, .slice none 0 0, .slice none 0 0]
  simpa using this
end Go.Proofs.Ytphhdmopfmelbaa
