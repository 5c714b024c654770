/- Joined texts: OutSet. -/
import Derived.Test.YtphhdmopfmelbaaM2

/- A world of one's own: one of its cells is turned. No walk. -/
namespace Go.Proofs.Ytphhdmopfmelbaa
open Go.RowKit Go.Proofs.YtphhdmopfmelbaaW.PrintWords
set_option linter.unusedVariables false
set_option linter.unusedSimpArgs false

theorem own_at {w : World} {B e n j : Nat} {v u : Value} {us : List Value} (h : w.ownsRow B e 1 v n us) (hj : us[j]? = some u) : ∃ (ad : Addr) (c : Nat), v = .slice (some ad) n c ∧ n ≤ c ∧ v.ownBlock = some (ad.add j).block ∧ w.cell? (ad.add j) = some u ∧
    ∀ w1 : World, w1.ownsRow B e 1 v n us → w1.frozen? (ad.add j) = false ∧ ∀ x, (w1.setCell (ad.add j) x).ownsRow B e 1 v n (us.set j x) := by
  have hl := (List.getElem?_eq_some_iff.1 hj).1
  have hn := h.1
  have h0 := h
  rcases h.2 with ⟨_, h0⟩ | ⟨g, cap, cur, rfl, _, _, hc, _⟩
  · omega
  · have ha : (⟨g, 0, none⟩ : Addr).add j = ⟨g, j, none⟩ := by simp [Addr.add] <;> omega
    refine ⟨⟨g, 0, none⟩, cap, rfl, hc, by rw [ha]; rfl, ?_, fun w1 h1 => ⟨?_, fun x => ?_⟩⟩
    · rw [ha, World.ownsRow.cellAt h0 j (by omega), hj]
    · rw [ha]; exact World.ownsRow.frozenAt h1 j
    · rw [ha]; exact (World.ownsRow.stored h1 j x).1
theorem fr_one {w : World} {a : Addr} {x : Value} {S : Nat → Prop} (h : S a.block) : Fr w (w.setCell a x) S := (Fr.refl w S).setCell a x (fun _ => h)
section
variable {B : Nat} {d : WD} {fv iv mv sv zv : Value} {us : List Value} {w : World}
theorem map_getD {α : Type} (f : α → Value) (l : List α) {j : Nat} (h : j < l.length) (x : α) : (l.map f)[j]? = some (f (l.getD j x)) := by
  simp [List.getD_eq_getElem?_getD, List.getElem?_eq_getElem h]
theorem OutW.atI (h : OutW B d fv iv mv sv zv us w) {j : Nat} (hj : j < d.infos.length) : ∃ (ad : Addr) (c : Nat), iv = .slice (some ad) d.infos.length c ∧ w.cell? (ad.add j) = some (.int .i64 (d.infos.getD j 0)) ∧
    ∀ w1, OutW B d fv iv mv sv zv us w1 → w1.frozen? (ad.add j) = false ∧ ∀ x, OutW B { d with infos := d.infos.set j x } fv iv mv sv zv us (w1.setCell (ad.add j) (.int .i64 x)) ∧ Fr w1 (w1.setCell (ad.add j) (.int .i64 x)) (OutFoot fv iv mv sv zv us) := by
  obtain ⟨ad, c, e, _, hb, hc, hs⟩ := own_at h.i (map_getD _ _ hj 0)
  refine ⟨ad, c, e, hc, fun w1 h1 => ⟨(hs w1 h1.i).1, fun x => ⟨?_, fr_one (.inr (.inl hb))⟩⟩⟩
  have hf : Fr w1 (w1.setCell (ad.add j) (.int .i64 x)) (fun k => k = (ad.add j).block) := fr_one rfl
  refine ⟨owns_fr h1.f hf fun k hk e2 => ne_typed h1.f h1.i (by decide) k hk (by rw [e2]; first | exact hb | exact hb.symm), fun i u r a1 a2 => owns_fr (h1.inn i u r a1 a2) hf fun k hk e2 => h1.dib _ hb u (List.mem_of_getElem? a1) (by rw [← e2]; exact hk), h1.dd,
    by have := (hs w1 h1.i).2 (.int .i64 x); rw [List.length_set, List.map_set]; exact this,
    owns_fr h1.m hf fun k hk e2 => ne_typed h1.m h1.i (by decide) k hk (by rw [e2]; first | exact hb | exact hb.symm), owns_fr h1.s hf fun k hk e2 => h1.dis _ hb (by rw [← e2]; exact hk), owns_fr h1.z hf fun k hk e2 => ne_typed h1.z h1.i (by decide) k hk (by rw [e2]; first | exact hb | exact hb.symm), h1.dib, h1.dsb, h1.dis, h1.dmz⟩
theorem OutW.atS (h : OutW B d fv iv mv sv zv us w) {j : Nat} (hj : j < d.states.length) : ∃ (ad : Addr) (c : Nat), sv = .slice (some ad) d.states.length c ∧ w.cell? (ad.add j) = some (.int .i64 (d.states.getD j 0)) ∧
    ∀ w1, OutW B d fv iv mv sv zv us w1 → w1.frozen? (ad.add j) = false ∧ ∀ x, OutW B { d with states := d.states.set j x } fv iv mv sv zv us (w1.setCell (ad.add j) (.int .i64 x)) ∧ Fr w1 (w1.setCell (ad.add j) (.int .i64 x)) (OutFoot fv iv mv sv zv us) := by
  obtain ⟨ad, c, e, _, hb, hc, hs⟩ := own_at h.s (map_getD _ _ hj 0)
  refine ⟨ad, c, e, hc, fun w1 h1 => ⟨(hs w1 h1.s).1, fun x => ⟨?_, fr_one (.inr (.inr (.inr (.inl hb))))⟩⟩⟩
  have hf : Fr w1 (w1.setCell (ad.add j) (.int .i64 x)) (fun k => k = (ad.add j).block) := fr_one rfl
  refine ⟨owns_fr h1.f hf fun k hk e2 => ne_typed h1.f h1.s (by decide) k hk (by rw [e2]; first | exact hb | exact hb.symm), fun i u r a1 a2 => owns_fr (h1.inn i u r a1 a2) hf fun k hk e2 => h1.dsb _ hb u (List.mem_of_getElem? a1) (by rw [← e2]; exact hk), h1.dd,
    owns_fr h1.i hf fun k hk e2 => h1.dis k hk (by rw [e2]; first | exact hb | exact hb.symm), owns_fr h1.m hf fun k hk e2 => ne_typed h1.m h1.s (by decide) k hk (by rw [e2]; first | exact hb | exact hb.symm),
    by have := (hs w1 h1.s).2 (.int .i64 x); rw [List.length_set, List.map_set]; exact this,
    owns_fr h1.z hf fun k hk e2 => ne_typed h1.z h1.s (by decide) k hk (by rw [e2]; first | exact hb | exact hb.symm), h1.dib, h1.dsb, h1.dis, h1.dmz⟩
theorem OutW.atM (h : OutW B d fv iv mv sv zv us w) {j : Nat} (hj : j < d.marks.length) : ∃ (ad : Addr) (c : Nat), mv = .slice (some ad) d.marks.length c ∧ w.cell? (ad.add j) = some (.bool (d.marks.getD j false)) ∧
    ∀ w1, OutW B d fv iv mv sv zv us w1 → w1.frozen? (ad.add j) = false ∧ ∀ x, OutW B { d with marks := d.marks.set j x } fv iv mv sv zv us (w1.setCell (ad.add j) (.bool x)) ∧ Fr w1 (w1.setCell (ad.add j) (.bool x)) (OutFoot fv iv mv sv zv us) := by
  obtain ⟨ad, c, e, _, hb, hc, hs⟩ := own_at h.m (map_getD _ _ hj false)
  refine ⟨ad, c, e, hc, fun w1 h1 => ⟨(hs w1 h1.m).1, fun x => ⟨?_, fr_one (.inr (.inr (.inl hb)))⟩⟩⟩
  have hf : Fr w1 (w1.setCell (ad.add j) (.bool x)) (fun k => k = (ad.add j).block) := fr_one rfl
  refine ⟨owns_fr h1.f hf fun k hk e2 => ne_typed h1.f h1.m (by decide) k hk (by rw [e2]; first | exact hb | exact hb.symm), fun i u r a1 a2 => owns_fr (h1.inn i u r a1 a2) hf fun k hk e2 => ne_typed (h1.inn i u r a1 a2) h1.m (by decide) k hk (by rw [e2]; first | exact hb | exact hb.symm), h1.dd,
    owns_fr h1.i hf fun k hk e2 => ne_typed h1.i h1.m (by decide) k hk (by rw [e2]; first | exact hb | exact hb.symm),
    by have := (hs w1 h1.m).2 (.bool x); rw [List.length_set, List.map_set]; exact this,
    owns_fr h1.s hf fun k hk e2 => ne_typed h1.s h1.m (by decide) k hk (by rw [e2]; first | exact hb | exact hb.symm), owns_fr h1.z hf fun k hk e2 => h1.dmz _ hb (by rw [← e2]; exact hk), h1.dib, h1.dsb, h1.dis, h1.dmz⟩
theorem OutW.atZ (h : OutW B d fv iv mv sv zv us w) {j : Nat} (hj : j < d.frozen.length) : ∃ (ad : Addr) (c : Nat), zv = .slice (some ad) d.frozen.length c ∧ w.cell? (ad.add j) = some (.bool (d.frozen.getD j false)) ∧
    ∀ w1, OutW B d fv iv mv sv zv us w1 → w1.frozen? (ad.add j) = false ∧ ∀ x, OutW B { d with frozen := d.frozen.set j x } fv iv mv sv zv us (w1.setCell (ad.add j) (.bool x)) ∧ Fr w1 (w1.setCell (ad.add j) (.bool x)) (OutFoot fv iv mv sv zv us) := by
  obtain ⟨ad, c, e, _, hb, hc, hs⟩ := own_at h.z (map_getD _ _ hj false)
  refine ⟨ad, c, e, hc, fun w1 h1 => ⟨(hs w1 h1.z).1, fun x => ⟨?_, fr_one (.inr (.inr (.inr (.inr (.inl hb)))))⟩⟩⟩
  have hf : Fr w1 (w1.setCell (ad.add j) (.bool x)) (fun k => k = (ad.add j).block) := fr_one rfl
  refine ⟨owns_fr h1.f hf fun k hk e2 => ne_typed h1.f h1.z (by decide) k hk (by rw [e2]; first | exact hb | exact hb.symm), fun i u r a1 a2 => owns_fr (h1.inn i u r a1 a2) hf fun k hk e2 => ne_typed (h1.inn i u r a1 a2) h1.z (by decide) k hk (by rw [e2]; first | exact hb | exact hb.symm), h1.dd,
    owns_fr h1.i hf fun k hk e2 => ne_typed h1.i h1.z (by decide) k hk (by rw [e2]; first | exact hb | exact hb.symm), owns_fr h1.m hf fun k hk e2 => h1.dmz k hk (by rw [e2]; first | exact hb | exact hb.symm),
    owns_fr h1.s hf fun k hk e2 => ne_typed h1.s h1.z (by decide) k hk (by rw [e2]; first | exact hb | exact hb.symm),
    by have := (hs w1 h1.z).2 (.bool x); rw [List.length_set, List.map_set]; exact this, h1.dib, h1.dsb, h1.dis, h1.dmz⟩
theorem OutW.atF (h : OutW B d fv iv mv sv zv us w) {i j : Nat} (hi : i < d.fields.length) (hj : j < (d.fields.getD i []).length) : ∃ (ad : Addr) (c : Nat) (ad2 : Addr) (c2 : Nat), fv = .slice (some ad) d.fields.length c ∧ w.cell? (ad.add i) = some (.slice (some ad2) (d.fields.getD i []).length c2) ∧ w.cell? (ad2.add j) = some (.int .i64 ((d.fields.getD i []).getD j 0)) ∧
    ∀ w1, OutW B d fv iv mv sv zv us w1 → w1.frozen? (ad2.add j) = false ∧ ∀ x, OutW B { d with fields := d.fields.set i ((d.fields.getD i []).set j x) } fv iv mv sv zv us (w1.setCell (ad2.add j) (.int .i64 x)) ∧ Fr w1 (w1.setCell (ad2.add j) (.int .i64 x)) (OutFoot fv iv mv sv zv us) := by
  have hlb := h.lb
  have hu : us[i]? = some us[i] := List.getElem?_eq_getElem (by omega)
  have hd : d.fields[i]? = some (d.fields.getD i []) := by simp [List.getD_eq_getElem?_getD, List.getElem?_eq_getElem hi]
  generalize us[i] = u at hu
  obtain ⟨ad, c, e, _, hb, hc, _⟩ := own_at h.f hu
  obtain ⟨ad2, c2, e2, _, hb2, hc2, hs⟩ := own_at (h.inn i u _ hu hd) (map_getD _ _ hj 0)
  have hm := List.mem_of_getElem? hu
  refine ⟨ad, c, ad2, c2, e, by rw [hc, e2], hc2, fun w1 h1 => ⟨(hs w1 (h1.inn i u _ hu hd)).1, fun x => ⟨?_, fr_one (.inr (.inr (.inr (.inr (.inr ⟨u, hm, hb2⟩)))))⟩⟩⟩
  have hf : Fr w1 (w1.setCell (ad2.add j) (.int .i64 x)) (fun k => k = (ad2.add j).block) := fr_one rfl
  have hr := h1.inn i u _ hu hd
  refine ⟨by rw [List.length_set]; exact owns_fr h1.f hf fun k hk e3 => ne_typed h1.f hr (by decide) k hk (by rw [e3]; first | exact hb2 | exact hb2.symm), fun i' u' r a1 a2 => ?_, h1.dd,
    owns_fr h1.i hf fun k hk e3 => h1.dib k hk u hm (by rw [e3]; first | exact hb2 | exact hb2.symm), owns_fr h1.m hf fun k hk e3 => ne_typed h1.m hr (by decide) k hk (by rw [e3]; first | exact hb2 | exact hb2.symm), owns_fr h1.s hf fun k hk e3 => h1.dsb k hk u hm (by rw [e3]; first | exact hb2 | exact hb2.symm),
    owns_fr h1.z hf fun k hk e3 => ne_typed h1.z hr (by decide) k hk (by rw [e3]; first | exact hb2 | exact hb2.symm), h1.dib, h1.dsb, h1.dis, h1.dmz⟩
  rcases Nat.decEq i i' with hne | rfl
  · rw [List.getElem?_set_ne hne] at a2
    exact owns_fr (h1.inn i' u' r a1 a2) hf fun k hk e3 => h1.dd i i' u u' hne hu a1 _ hb2 (by rw [← e3]; exact hk)
  · rw [hu, Option.some.injEq] at a1
    subst a1
    rw [List.getElem?_set_self hi, Option.some.injEq] at a2
    subst a2
    rw [List.length_set, List.map_set]
    exact (hs w1 hr).2 (.int .i64 x)
end
end Go.Proofs.Ytphhdmopfmelbaa
