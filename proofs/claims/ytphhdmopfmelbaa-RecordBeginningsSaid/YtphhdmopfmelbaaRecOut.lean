/- record: a world on its way out: what world() has made. No walk. -/
import Derived.Test.YtphhdmopfmelbaaRecDoB
namespace Go.Proofs.Ytphhdmopfmelbaa
open Go.RowKit Go.Proofs.YtphhdmopfmelbaaW.PrintWords
set_option linter.unusedVariables false
set_option linter.unusedSimpArgs false

abbrev TRI : Nat := 23
abbrev TII : Nat := 3
abbrev TBB : Nat := 4
/-- A row of numbers in a block of its own, no room to spare. -/
abbrev rowv (b : Nat) (r : List Int) : Value := .slice (some ⟨b, 0, none⟩) r.length r.length
/-- A world as memory of its own: its five slices; its rows of fields. -/
structure OutW (B : Nat) (d : WD) (fv iv mv sv zv : Value) (us : List Value) (w : World) : Prop where
  f : w.ownsRow B TRI 1 fv d.fields.length us
  inn : ∀ (i : Nat) (u : Value) (r : List Int), us[i]? = some u → d.fields[i]? = some r → w.ownsRow B TII 1 u r.length (r.map (Value.int .i64))
  dd : ∀ (i j : Nat) (u u' : Value), i ≠ j → us[i]? = some u → us[j]? = some u' → ∀ k, u.ownBlock = some k → u'.ownBlock ≠ some k
  i : w.ownsRow B TII 1 iv d.infos.length (d.infos.map (Value.int .i64))
  m : w.ownsRow B TBB 1 mv d.marks.length (d.marks.map Value.bool)
  s : w.ownsRow B TII 1 sv d.states.length (d.states.map (Value.int .i64))
  z : w.ownsRow B TBB 1 zv d.frozen.length (d.frozen.map Value.bool)
  dib : ∀ k, iv.ownBlock = some k → ∀ u ∈ us, u.ownBlock ≠ some k
  dsb : ∀ k, sv.ownBlock = some k → ∀ u ∈ us, u.ownBlock ≠ some k
  dis : ∀ k, iv.ownBlock = some k → sv.ownBlock ≠ some k
  dmz : ∀ k, mv.ownBlock = some k → zv.ownBlock ≠ some k
/-- The blocks of a world that goes out. -/
def OutFoot (fv iv mv sv zv : Value) (us : List Value) (k : Nat) : Prop := fv.ownBlock = some k ∨ iv.ownBlock = some k ∨ mv.ownBlock = some k ∨ sv.ownBlock = some k ∨ zv.ownBlock = some k ∨ ∃ u ∈ us, u.ownBlock = some k
section
variable {B : Nat} {d : WD} {fv iv mv sv zv v' : Value} {us : List Value} {w w1 w' : World}
theorem OutW.lb (h : OutW B d fv iv mv sv zv us w) : us.length = d.fields.length := by have := h.f.1; omega
theorem OutW.inn_own (h : OutW B d fv iv mv sv zv us w) {u : Value} (hu : u ∈ us) : ∃ r : List Int, w.ownsRow B TII 1 u r.length (r.map (Value.int .i64)) := by
  obtain ⟨i, hi⟩ := List.getElem?_of_mem hu
  have hl := (List.getElem?_eq_some_iff.1 hi).1
  exact ⟨_, h.inn i u _ hi (List.getElem?_eq_getElem (by rw [← h.lb]; exact hl))⟩
/-- What turns is none of its blocks. -/
theorem OutW.fr (h : OutW B d fv iv mv sv zv us w) {S : Nat → Prop} (hf : Fr w w' S) (hS : ∀ k, OutFoot fv iv mv sv zv us k → ¬ S k) : OutW B d fv iv mv sv zv us w' :=
  ⟨owns_fr h.f hf (fun k hk => hS k (.inl hk)), fun i u r h1 h2 => owns_fr (h.inn i u r h1 h2) hf (fun k hk => hS k (.inr (.inr (.inr (.inr (.inr ⟨u, List.mem_of_getElem? h1, hk⟩)))))), h.dd,
    owns_fr h.i hf (fun k hk => hS k (.inr (.inl hk))), owns_fr h.m hf (fun k hk => hS k (.inr (.inr (.inl hk)))), owns_fr h.s hf (fun k hk => hS k (.inr (.inr (.inr (.inl hk))))), owns_fr h.z hf (fun k hk => hS k (.inr (.inr (.inr (.inr (.inl hk)))))), h.dib, h.dsb, h.dis, h.dmz⟩
theorem OutW.foot (h : OutW B d fv iv mv sv zv us w) {k : Nat} (hk : OutFoot fv iv mv sv zv us k) : B ≤ k ∧ k < w.heap.size ∧ ∃ T ys, Blk w k T ys ∧ (T = TRI ∨ T = TII ∨ T = TBB) := by
  have key : ∀ {v e n us}, w.ownsRow B e 1 v n us → v.ownBlock = some k → B ≤ k ∧ k < w.heap.size ∧ ∃ ys, Blk w k e ys := fun ho hk => by
    obtain ⟨c, hc⟩ := owns_typed ho k hk
    exact ⟨(World.ownsRow.lt ho k hk).1, (World.ownsRow.lt ho k hk).2, c, hc⟩
  rcases hk with hk | hk | hk | hk | hk | ⟨u, hu, hk⟩
  · obtain ⟨a, b, c, e⟩ := key h.f hk; exact ⟨a, b, _, c, e, .inl rfl⟩
  · obtain ⟨a, b, c, e⟩ := key h.i hk; exact ⟨a, b, _, c, e, .inr (.inl rfl)⟩
  · obtain ⟨a, b, c, e⟩ := key h.m hk; exact ⟨a, b, _, c, e, .inr (.inr rfl)⟩
  · obtain ⟨a, b, c, e⟩ := key h.s hk; exact ⟨a, b, _, c, e, .inr (.inl rfl)⟩
  · obtain ⟨a, b, c, e⟩ := key h.z hk; exact ⟨a, b, _, c, e, .inr (.inr rfl)⟩
  · obtain ⟨r, hr⟩ := h.inn_own hu
    obtain ⟨a, b, c, e⟩ := key hr hk; exact ⟨a, b, _, c, e, .inr (.inl rfl)⟩
theorem OutW.below (h : OutW B d fv iv mv sv zv us w) (hb : Below w.heap.size w w') : OutW B d fv iv mv sv zv us w' := h.fr (S := fun _ => False) (Fr.of_below0 hb) (fun _ _ => id)
/-- A block of another type has turned. -/
theorem OutW.other (h : OutW B d fv iv mv sv zv us w) {S : Nat → Prop} (hf : Fr w w' S) (hS : ∀ k, S k → ∃ T ys, Blk w k T ys ∧ T ≠ TRI ∧ T ≠ TII ∧ T ≠ TBB) : OutW B d fv iv mv sv zv us w' :=
  h.fr hf (fun k hk hs => by
    obtain ⟨_, _, T, ys, hb, hT⟩ := h.foot hk
    obtain ⟨T', ys', hb', h1, h2, h3⟩ := hS k hs
    have := (hb.inj hb').1
    rcases hT with rfl | rfl | rfl <;> simp_all)
theorem OutW.empty (B : Nat) (w : World) : OutW B ⟨[], [], [], [], []⟩ (.slice none 0 0) (.slice none 0 0) (.slice none 0 0) (.slice none 0 0) (.slice none 0 0) [] w :=
  ⟨World.ownsRow_nil _ _ _ _, fun i u r h => by simp at h, fun i j u u' _ h => by simp at h, World.ownsRow_nil _ _ _ _, World.ownsRow_nil _ _ _ _, World.ownsRow_nil _ _ _ _, World.ownsRow_nil _ _ _ _,
    fun k h => by simp [Value.ownBlock] at h, fun k h => by simp [Value.ownBlock] at h, fun k h => by simp [Value.ownBlock] at h, fun k h => by simp [Value.ownBlock] at h⟩
theorem ne_typed {w : World} {B B' e e' n n' : Nat} {v u : Value} {us ys : List Value} (h : w.ownsRow B e 1 v n us) (h' : w.ownsRow B' e' 1 u n' ys) (hne : e ≠ e') (k : Nat) (hk : v.ownBlock = some k) : ¬ some k = u.ownBlock := fun e2 => by
  obtain ⟨c, hc⟩ := owns_typed h k hk
  obtain ⟨c', hc'⟩ := owns_typed h' k e2.symm
  exact hne ((show Blk w k e c from hc).inj hc').1
/-- A row of fields more. -/
theorem OutW.pushF (h : OutW B d fv iv mv sv zv us w) (hg : w.grownBy w1 fv.ownBlock) {u : Value} {r : List Int} (hu : w.ownsRow B TII 1 u r.length (r.map (Value.int .i64))) (hn : ∀ k, u.ownBlock = some k → ¬ OutFoot fv iv mv sv zv us k)
    (ho : w1.ownsRow B TRI 1 v' (d.fields.length + 1) (us ++ [u])) : OutW B { d with fields := d.fields ++ [r] } v' iv mv sv zv (us ++ [u]) w1 := by
  have hf := Fr.of_grown hg
  refine ⟨by simpa using ho, fun i c q h1 h2 => ?_, fun i j c c' hij h1 h2 k hk hk' => ?_, owns_fr h.i hf (fun k hk => ne_typed h.i h.f (by decide) k hk), owns_fr h.m hf (fun k hk => ne_typed h.m h.f (by decide) k hk),
    owns_fr h.s hf (fun k hk => ne_typed h.s h.f (by decide) k hk), owns_fr h.z hf (fun k hk => ne_typed h.z h.f (by decide) k hk), fun k hk x hx hx' => ?_, fun k hk x hx hx' => ?_, h.dis, h.dmz⟩
  · rcases get_append_one h1 with h1 | ⟨rfl, rfl⟩
    · have hl := (List.getElem?_eq_some_iff.1 h1).1
      rw [List.getElem?_append_left (by rw [← h.lb]; exact hl)] at h2
      have hc := h.inn i c q h1 h2
      exact owns_fr hc hf (fun k hk => ne_typed hc h.f (by decide) k hk)
    · rw [List.getElem?_append_right (by rw [h.lb]; exact Nat.le_refl _), h.lb, Nat.sub_self] at h2
      simp at h2
      subst h2
      exact owns_fr hu hf (fun k hk => ne_typed hu h.f (by decide) k hk)
  · rcases get_append_one h1 with h1 | ⟨rfl, rfl⟩
    · rcases get_append_one h2 with h2 | ⟨rfl, rfl⟩
      · exact h.dd i j c c' hij h1 h2 k hk hk'
      · exact hn k hk' (.inr (.inr (.inr (.inr (.inr ⟨c, List.mem_of_getElem? h1, hk⟩)))))
    · rcases get_append_one h2 with h2 | ⟨rfl, rfl⟩
      · exact hn k hk (.inr (.inr (.inr (.inr (.inr ⟨c', List.mem_of_getElem? h2, hk'⟩)))))
      · exact hij rfl
  · rcases List.mem_append.1 hx with hx | hx
    · exact h.dib k hk x hx hx'
    · simp at hx; subst hx; exact hn k hx' (.inr (.inl hk))
  · rcases List.mem_append.1 hx with hx | hx
    · exact h.dsb k hk x hx hx'
    · simp at hx; subst hx; exact hn k hx' (.inr (.inr (.inr (.inl hk))))
theorem own_new {v v' : Value} {w : World} (hat : v'.ownBlock = v.ownBlock ∨ ∃ b, v'.ownBlock = some b ∧ w.heap.size ≤ b) {k : Nat} (hk : v'.ownBlock = some k) : v.ownBlock = some k ∨ w.heap.size ≤ k := by
  rcases hat with h | ⟨b, h, hb⟩
  · exact .inl (h ▸ hk)
  · rw [h] at hk; cases hk; exact .inr hb
theorem OutW.pushI (h : OutW B d fv iv mv sv zv us w) (hg : w.grownBy w1 iv.ownBlock) {n : Int} (ho : w1.ownsRow B TII 1 v' (d.infos.length + 1) (d.infos.map (Value.int .i64) ++ [.int .i64 n]))
    (hat : v'.ownBlock = iv.ownBlock ∨ ∃ b, v'.ownBlock = some b ∧ w.heap.size ≤ b) : OutW B { d with infos := d.infos ++ [n] } fv v' mv sv zv us w1 := by
  have hf := Fr.of_grown hg
  refine ⟨owns_fr h.f hf (fun k hk => ne_typed h.f h.i (by decide) k hk), fun i c q h1 h2 => owns_fr (h.inn i c q h1 h2) hf (fun k hk e => h.dib k e.symm c (List.mem_of_getElem? h1) hk), h.dd, by simpa using ho, owns_fr h.m hf (fun k hk => ne_typed h.m h.i (by decide) k hk),
    owns_fr h.s hf (fun k hk e => h.dis k e.symm hk), owns_fr h.z hf (fun k hk => ne_typed h.z h.i (by decide) k hk), fun k hk x hx hm => ?_, h.dsb, fun k hk hs => ?_, h.dmz⟩
  · rcases own_new hat hk with hk | hk
    · exact h.dib k hk x hx hm
    · obtain ⟨r, hr⟩ := h.inn_own hx
      have := (World.ownsRow.lt hr k hm).2; omega
  · rcases own_new hat hk with hk | hk
    · exact h.dis k hk hs
    · have := (World.ownsRow.lt h.s k hs).2; omega
theorem OutW.pushS (h : OutW B d fv iv mv sv zv us w) (hg : w.grownBy w1 sv.ownBlock) {n : Int} (ho : w1.ownsRow B TII 1 v' (d.states.length + 1) (d.states.map (Value.int .i64) ++ [.int .i64 n]))
    (hat : v'.ownBlock = sv.ownBlock ∨ ∃ b, v'.ownBlock = some b ∧ w.heap.size ≤ b) : OutW B { d with states := d.states ++ [n] } fv iv mv v' zv us w1 := by
  have hf := Fr.of_grown hg
  refine ⟨owns_fr h.f hf (fun k hk => ne_typed h.f h.s (by decide) k hk), fun i c q h1 h2 => owns_fr (h.inn i c q h1 h2) hf (fun k hk e => h.dsb k e.symm c (List.mem_of_getElem? h1) hk), h.dd, owns_fr h.i hf (fun k hk e => h.dis k hk e.symm), owns_fr h.m hf (fun k hk => ne_typed h.m h.s (by decide) k hk),
    by simpa using ho, owns_fr h.z hf (fun k hk => ne_typed h.z h.s (by decide) k hk), h.dib, fun k hk x hx hm => ?_, fun k hk hs => ?_, h.dmz⟩
  · rcases own_new hat hk with hk | hk
    · exact h.dsb k hk x hx hm
    · obtain ⟨r, hr⟩ := h.inn_own hx
      have := (World.ownsRow.lt hr k hm).2; omega
  · rcases own_new hat hs with hs | hs
    · exact h.dis k hk hs
    · have := (World.ownsRow.lt h.i k hk).2; omega
theorem OutW.pushM (h : OutW B d fv iv mv sv zv us w) (hg : w.grownBy w1 mv.ownBlock) {n : Bool} (ho : w1.ownsRow B TBB 1 v' (d.marks.length + 1) (d.marks.map Value.bool ++ [.bool n]))
    (hat : v'.ownBlock = mv.ownBlock ∨ ∃ b, v'.ownBlock = some b ∧ w.heap.size ≤ b) : OutW B { d with marks := d.marks ++ [n] } fv iv v' sv zv us w1 := by
  have hf := Fr.of_grown hg
  refine ⟨owns_fr h.f hf (fun k hk => ne_typed h.f h.m (by decide) k hk), fun i c q h1 h2 => owns_fr (h.inn i c q h1 h2) hf (fun k hk => ne_typed (h.inn i c q h1 h2) h.m (by decide) k hk), h.dd, owns_fr h.i hf (fun k hk => ne_typed h.i h.m (by decide) k hk), by simpa using ho,
    owns_fr h.s hf (fun k hk => ne_typed h.s h.m (by decide) k hk), owns_fr h.z hf (fun k hk e => h.dmz k e.symm hk), h.dib, h.dsb, h.dis, fun k hk hs => ?_⟩
  · rcases own_new hat hk with hk | hk
    · exact h.dmz k hk hs
    · have := (World.ownsRow.lt h.z k hs).2; omega
theorem OutW.pushZ (h : OutW B d fv iv mv sv zv us w) (hg : w.grownBy w1 zv.ownBlock) {n : Bool} (ho : w1.ownsRow B TBB 1 v' (d.frozen.length + 1) (d.frozen.map Value.bool ++ [.bool n]))
    (hat : v'.ownBlock = zv.ownBlock ∨ ∃ b, v'.ownBlock = some b ∧ w.heap.size ≤ b) : OutW B { d with frozen := d.frozen ++ [n] } fv iv mv sv v' us w1 := by
  have hf := Fr.of_grown hg
  refine ⟨owns_fr h.f hf (fun k hk => ne_typed h.f h.z (by decide) k hk), fun i c q h1 h2 => owns_fr (h.inn i c q h1 h2) hf (fun k hk => ne_typed (h.inn i c q h1 h2) h.z (by decide) k hk), h.dd, owns_fr h.i hf (fun k hk => ne_typed h.i h.z (by decide) k hk), owns_fr h.m hf (fun k hk e => h.dmz k hk e.symm),
    owns_fr h.s hf (fun k hk => ne_typed h.s h.z (by decide) k hk), by simpa using ho, h.dib, h.dsb, h.dis, fun k hk hs => ?_⟩
  · rcases own_new hat hs with hs | hs
    · exact h.dmz k hk hs
    · have := (World.ownsRow.lt h.m k hk).2; omega
end
end Go.Proofs.Ytphhdmopfmelbaa
