/- Joined texts: OutSet Ref12E Ref12F. -/
import Derived.Test.YtphhdmopfmelbaaM2
import Derived.Test.YtphhdmopfmelbaaM3
import Derived.Test.YtphhdmopfmelbaaM4

/- A world of one's own: one of its cells is turned. No walk. -/
namespace Go.Proofs.Ytphhdmopfmelbaa
open Go.RowKit Go.Proofs.YtphhdmopfmelbaaW.PrintWords
set_option linter.unusedVariables false
set_option linter.unusedSimpArgs false

theorem own_at {w : World} {B e n j : Nat} {v u : Value} {us : List Value} (h : w.ownsRow B e 1 v n us) (hj : us[j]? = some u) : ∃ (ad : Addr) (c : Nat), v = .slice (some ad) n c ∧ n ≤ c ∧ v.ownBlock = some (ad.add j).block ∧ w.cell? (ad.add j) = some u ∧
    ∀ w1 : World, w1.ownsRow B e 1 v n us → w1.frozen? (ad.add j) = false ∧ ∀ x, (w1.setCell (ad.add j) x).ownsRow B e 1 v n (us.set j x) := by
  have hl := (List.getElem?_eq_some_iff.1 hj).1
  have hn := h.1
  have h0 := h
  rcases h.2 with ⟨_, h0⟩ | ⟨g, cap, cur, rfl, _, _, hc, _⟩
  · omega
  · have ha : (⟨g, 0, none⟩ : Addr).add j = ⟨g, j, none⟩ := by simp [Addr.add] <;> omega
    refine ⟨⟨g, 0, none⟩, cap, rfl, hc, by rw [ha]; rfl, ?_, fun w1 h1 => ⟨?_, fun x => ?_⟩⟩
    · rw [ha, World.ownsRow.cellAt h0 j (by omega), hj]
    · rw [ha]; exact World.ownsRow.frozenAt h1 j
    · rw [ha]; exact (World.ownsRow.stored h1 j x).1
theorem fr_one {w : World} {a : Addr} {x : Value} {S : Nat → Prop} (h : S a.block) : Fr w (w.setCell a x) S := (Fr.refl w S).setCell a x (fun _ => h)
section
variable {B : Nat} {d : WD} {fv iv mv sv zv : Value} {us : List Value} {w : World}
theorem map_getD {α : Type} (f : α → Value) (l : List α) {j : Nat} (h : j < l.length) (x : α) : (l.map f)[j]? = some (f (l.getD j x)) := by
  simp [List.getD_eq_getElem?_getD, List.getElem?_eq_getElem h]
theorem OutW.atI (h : OutW B d fv iv mv sv zv us w) {j : Nat} (hj : j < d.infos.length) : ∃ (ad : Addr) (c : Nat), iv = .slice (some ad) d.infos.length c ∧ w.cell? (ad.add j) = some (.int .i64 (d.infos.getD j 0)) ∧
    ∀ w1, OutW B d fv iv mv sv zv us w1 → w1.frozen? (ad.add j) = false ∧ ∀ x, OutW B { d with infos := d.infos.set j x } fv iv mv sv zv us (w1.setCell (ad.add j) (.int .i64 x)) ∧ Fr w1 (w1.setCell (ad.add j) (.int .i64 x)) (OutFoot fv iv mv sv zv us) := by
  obtain ⟨ad, c, e, _, hb, hc, hs⟩ := own_at h.i (map_getD _ _ hj 0)
  refine ⟨ad, c, e, hc, fun w1 h1 => ⟨(hs w1 h1.i).1, fun x => ⟨?_, fr_one (.inr (.inl hb))⟩⟩⟩
  have hf : Fr w1 (w1.setCell (ad.add j) (.int .i64 x)) (fun k => k = (ad.add j).block) := fr_one rfl
  refine ⟨owns_fr h1.f hf fun k hk e2 => ne_typed h1.f h1.i (by decide) k hk (by rw [e2]; first | exact hb | exact hb.symm), fun i u r a1 a2 => owns_fr (h1.inn i u r a1 a2) hf fun k hk e2 => h1.dib _ hb u (List.mem_of_getElem? a1) (by rw [← e2]; exact hk), h1.dd,
    by have := (hs w1 h1.i).2 (.int .i64 x); rw [List.length_set, List.map_set]; exact this,
    owns_fr h1.m hf fun k hk e2 => ne_typed h1.m h1.i (by decide) k hk (by rw [e2]; first | exact hb | exact hb.symm), owns_fr h1.s hf fun k hk e2 => h1.dis _ hb (by rw [← e2]; exact hk), owns_fr h1.z hf fun k hk e2 => ne_typed h1.z h1.i (by decide) k hk (by rw [e2]; first | exact hb | exact hb.symm), h1.dib, h1.dsb, h1.dis, h1.dmz⟩
theorem OutW.atS (h : OutW B d fv iv mv sv zv us w) {j : Nat} (hj : j < d.states.length) : ∃ (ad : Addr) (c : Nat), sv = .slice (some ad) d.states.length c ∧ w.cell? (ad.add j) = some (.int .i64 (d.states.getD j 0)) ∧
    ∀ w1, OutW B d fv iv mv sv zv us w1 → w1.frozen? (ad.add j) = false ∧ ∀ x, OutW B { d with states := d.states.set j x } fv iv mv sv zv us (w1.setCell (ad.add j) (.int .i64 x)) ∧ Fr w1 (w1.setCell (ad.add j) (.int .i64 x)) (OutFoot fv iv mv sv zv us) := by
  obtain ⟨ad, c, e, _, hb, hc, hs⟩ := own_at h.s (map_getD _ _ hj 0)
  refine ⟨ad, c, e, hc, fun w1 h1 => ⟨(hs w1 h1.s).1, fun x => ⟨?_, fr_one (.inr (.inr (.inr (.inl hb))))⟩⟩⟩
  have hf : Fr w1 (w1.setCell (ad.add j) (.int .i64 x)) (fun k => k = (ad.add j).block) := fr_one rfl
  refine ⟨owns_fr h1.f hf fun k hk e2 => ne_typed h1.f h1.s (by decide) k hk (by rw [e2]; first | exact hb | exact hb.symm), fun i u r a1 a2 => owns_fr (h1.inn i u r a1 a2) hf fun k hk e2 => h1.dsb _ hb u (List.mem_of_getElem? a1) (by rw [← e2]; exact hk), h1.dd,
    owns_fr h1.i hf fun k hk e2 => h1.dis k hk (by rw [e2]; first | exact hb | exact hb.symm), owns_fr h1.m hf fun k hk e2 => ne_typed h1.m h1.s (by decide) k hk (by rw [e2]; first | exact hb | exact hb.symm),
    by have := (hs w1 h1.s).2 (.int .i64 x); rw [List.length_set, List.map_set]; exact this,
    owns_fr h1.z hf fun k hk e2 => ne_typed h1.z h1.s (by decide) k hk (by rw [e2]; first | exact hb | exact hb.symm), h1.dib, h1.dsb, h1.dis, h1.dmz⟩
theorem OutW.atM (h : OutW B d fv iv mv sv zv us w) {j : Nat} (hj : j < d.marks.length) : ∃ (ad : Addr) (c : Nat), mv = .slice (some ad) d.marks.length c ∧ w.cell? (ad.add j) = some (.bool (d.marks.getD j false)) ∧
    ∀ w1, OutW B d fv iv mv sv zv us w1 → w1.frozen? (ad.add j) = false ∧ ∀ x, OutW B { d with marks := d.marks.set j x } fv iv mv sv zv us (w1.setCell (ad.add j) (.bool x)) ∧ Fr w1 (w1.setCell (ad.add j) (.bool x)) (OutFoot fv iv mv sv zv us) := by
  obtain ⟨ad, c, e, _, hb, hc, hs⟩ := own_at h.m (map_getD _ _ hj false)
  refine ⟨ad, c, e, hc, fun w1 h1 => ⟨(hs w1 h1.m).1, fun x => ⟨?_, fr_one (.inr (.inr (.inl hb)))⟩⟩⟩
  have hf : Fr w1 (w1.setCell (ad.add j) (.bool x)) (fun k => k = (ad.add j).block) := fr_one rfl
  refine ⟨owns_fr h1.f hf fun k hk e2 => ne_typed h1.f h1.m (by decide) k hk (by rw [e2]; first | exact hb | exact hb.symm), fun i u r a1 a2 => owns_fr (h1.inn i u r a1 a2) hf fun k hk e2 => ne_typed (h1.inn i u r a1 a2) h1.m (by decide) k hk (by rw [e2]; first | exact hb | exact hb.symm), h1.dd,
    owns_fr h1.i hf fun k hk e2 => ne_typed h1.i h1.m (by decide) k hk (by rw [e2]; first | exact hb | exact hb.symm),
    by have := (hs w1 h1.m).2 (.bool x); rw [List.length_set, List.map_set]; exact this,
    owns_fr h1.s hf fun k hk e2 => ne_typed h1.s h1.m (by decide) k hk (by rw [e2]; first | exact hb | exact hb.symm), owns_fr h1.z hf fun k hk e2 => h1.dmz _ hb (by rw [← e2]; exact hk), h1.dib, h1.dsb, h1.dis, h1.dmz⟩
theorem OutW.atZ (h : OutW B d fv iv mv sv zv us w) {j : Nat} (hj : j < d.frozen.length) : ∃ (ad : Addr) (c : Nat), zv = .slice (some ad) d.frozen.length c ∧ w.cell? (ad.add j) = some (.bool (d.frozen.getD j false)) ∧
    ∀ w1, OutW B d fv iv mv sv zv us w1 → w1.frozen? (ad.add j) = false ∧ ∀ x, OutW B { d with frozen := d.frozen.set j x } fv iv mv sv zv us (w1.setCell (ad.add j) (.bool x)) ∧ Fr w1 (w1.setCell (ad.add j) (.bool x)) (OutFoot fv iv mv sv zv us) := by
  obtain ⟨ad, c, e, _, hb, hc, hs⟩ := own_at h.z (map_getD _ _ hj false)
  refine ⟨ad, c, e, hc, fun w1 h1 => ⟨(hs w1 h1.z).1, fun x => ⟨?_, fr_one (.inr (.inr (.inr (.inr (.inl hb)))))⟩⟩⟩
  have hf : Fr w1 (w1.setCell (ad.add j) (.bool x)) (fun k => k = (ad.add j).block) := fr_one rfl
  refine ⟨owns_fr h1.f hf fun k hk e2 => ne_typed h1.f h1.z (by decide) k hk (by rw [e2]; first | exact hb | exact hb.symm), fun i u r a1 a2 => owns_fr (h1.inn i u r a1 a2) hf fun k hk e2 => ne_typed (h1.inn i u r a1 a2) h1.z (by decide) k hk (by rw [e2]; first | exact hb | exact hb.symm), h1.dd,
    owns_fr h1.i hf fun k hk e2 => ne_typed h1.i h1.z (by decide) k hk (by rw [e2]; first | exact hb | exact hb.symm), owns_fr h1.m hf fun k hk e2 => h1.dmz k hk (by rw [e2]; first | exact hb | exact hb.symm),
    owns_fr h1.s hf fun k hk e2 => ne_typed h1.s h1.z (by decide) k hk (by rw [e2]; first | exact hb | exact hb.symm),
    by have := (hs w1 h1.z).2 (.bool x); rw [List.length_set, List.map_set]; exact this, h1.dib, h1.dsb, h1.dis, h1.dmz⟩
theorem OutW.atF (h : OutW B d fv iv mv sv zv us w) {i j : Nat} (hi : i < d.fields.length) (hj : j < (d.fields.getD i []).length) : ∃ (ad : Addr) (c : Nat) (ad2 : Addr) (c2 : Nat), fv = .slice (some ad) d.fields.length c ∧ w.cell? (ad.add i) = some (.slice (some ad2) (d.fields.getD i []).length c2) ∧ w.cell? (ad2.add j) = some (.int .i64 ((d.fields.getD i []).getD j 0)) ∧
    ∀ w1, OutW B d fv iv mv sv zv us w1 → w1.frozen? (ad2.add j) = false ∧ ∀ x, OutW B { d with fields := d.fields.set i ((d.fields.getD i []).set j x) } fv iv mv sv zv us (w1.setCell (ad2.add j) (.int .i64 x)) ∧ Fr w1 (w1.setCell (ad2.add j) (.int .i64 x)) (OutFoot fv iv mv sv zv us) := by
  have hlb := h.lb
  have hu : us[i]? = some us[i] := List.getElem?_eq_getElem (by omega)
  have hd : d.fields[i]? = some (d.fields.getD i []) := by simp [List.getD_eq_getElem?_getD, List.getElem?_eq_getElem hi]
  generalize us[i] = u at hu
  obtain ⟨ad, c, e, _, hb, hc, _⟩ := own_at h.f hu
  obtain ⟨ad2, c2, e2, _, hb2, hc2, hs⟩ := own_at (h.inn i u _ hu hd) (map_getD _ _ hj 0)
  have hm := List.mem_of_getElem? hu
  refine ⟨ad, c, ad2, c2, e, by rw [hc, e2], hc2, fun w1 h1 => ⟨(hs w1 (h1.inn i u _ hu hd)).1, fun x => ⟨?_, fr_one (.inr (.inr (.inr (.inr (.inr ⟨u, hm, hb2⟩)))))⟩⟩⟩
  have hf : Fr w1 (w1.setCell (ad2.add j) (.int .i64 x)) (fun k => k = (ad2.add j).block) := fr_one rfl
  have hr := h1.inn i u _ hu hd
  refine ⟨by rw [List.length_set]; exact owns_fr h1.f hf fun k hk e3 => ne_typed h1.f hr (by decide) k hk (by rw [e3]; first | exact hb2 | exact hb2.symm), fun i' u' r a1 a2 => ?_, h1.dd,
    owns_fr h1.i hf fun k hk e3 => h1.dib k hk u hm (by rw [e3]; first | exact hb2 | exact hb2.symm), owns_fr h1.m hf fun k hk e3 => ne_typed h1.m hr (by decide) k hk (by rw [e3]; first | exact hb2 | exact hb2.symm), owns_fr h1.s hf fun k hk e3 => h1.dsb k hk u hm (by rw [e3]; first | exact hb2 | exact hb2.symm),
    owns_fr h1.z hf fun k hk e3 => ne_typed h1.z hr (by decide) k hk (by rw [e3]; first | exact hb2 | exact hb2.symm), h1.dib, h1.dsb, h1.dis, h1.dmz⟩
  rcases Nat.decEq i i' with hne | rfl
  · rw [List.getElem?_set_ne hne] at a2
    exact owns_fr (h1.inn i' u' r a1 a2) hf fun k hk e3 => h1.dd i i' u u' hne hu a1 _ hb2 (by rw [← e3]; exact hk)
  · rw [hu, Option.some.injEq] at a1
    subst a1
    rw [List.getElem?_set_self hi, Option.some.injEq] at a2
    subst a2
    rw [List.length_set, List.map_set]
    exact (hs w1 hr).2 (.int .i64 x)
end
end Go.Proofs.Ytphhdmopfmelbaa

/- larchref12: fit. -/
namespace Go.Proofs.Ytphhdmopfmelbaa
open Go.RowKit Go.Proofs.YtphhdmopfmelbaaW.PrintWords
set_option linter.unusedVariables false
set_option linter.unusedSimpArgs false

abbrev TRX : Nat := 67
set_option maxHeartbeats 4000000 in
set_option maxRecDepth 100000 in
theorem ref_fit (w : World) (v : WV) (d : WD) (hv : v.Reads w d) (hl : d.fields.length < 1000000000000000) (hl3 : d.states.length < 1000000000000000) (hr : ∀ r ∈ d.fields, r.length < 1000000000000000) (k at_ a b c : Int) :
    Calls Try.prog 45 #[v.val d, .agg #[.int .i64 k, .int .i64 at_, .int .i64 a, .int .i64 b, .int .i64 c]] w fun e w' => e = .returned (.int .i64 (refD d k at_ a b c)) ∧ Below w.heap.size w w' := by
  refine calls_hide fun Q HQ => ?_
  have HQ' := Lib.hid HQ
  have HV := Lib.hid hv
  have HR := Lib.hid hr
  have hba := ((Below.refl w.heap.size w).alloc (Nat.le_refl _) (.cells (v.cells d).toArray TRW)).alloc (by simp) (.cells #[.int .i64 k, .int .i64 at_, .int .i64 a, .int .i64 b, .int .i64 c] TRX)
  have hb1 := (Blk.new w TRW (v.cells d)).alloc (.cells #[.int .i64 k, .int .i64 at_, .int .i64 a, .int .i64 b, .int .i64 c] TRX)
  have hb2 := Blk.new (w.alloc (.cells (v.cells d).toArray TRW)) TRX [.int .i64 k, .int .i64 at_, .int .i64 a, .int .i64 b, .int .i64 c]
  rw [World.size_alloc] at hb2
  have HBA := Lib.hid hba
  have HB1 := Lib.hid hb1
  have HB2 := Lib.hid (show Blk ((w.alloc (.cells (v.cells d).toArray TRW)).alloc (.cells #[.int .i64 k, .int .i64 at_, .int .i64 a, .int .i64 b, .int .i64 c] TRX)) (w.heap.size + 1) TRX _ from hb2)
  have ha0 := hb2.cell 0
  simp only [List.getElem?_cons_zero, List.getElem?_cons_succ] at ha0
  clear HQ hv hr hba hb1 hb2
  go_enter Try.func45, Try.ntmps45
  go_wp2_with fail
  generalize (w.alloc (.cells (v.cells d).toArray TRW)).alloc (.cells #[.int .i64 k, .int .i64 at_, .int .i64 a, .int .i64 b, .int .i64 c] TRX) = wA at *
  cases h1 : inD k 1 12 with
  | false =>
    have hs : refD d k at_ a b c = 5 := by unfold refD; rw [if_pos h1]
    rw [hs] at HQ'
    refine (ref_in_of2 k 1 11 _ h1 _).mono ?_; rintro e w1 ⟨rfl, rfl⟩
    clear hs h1
    go_wp2
    exact HQ'.out _ _ ⟨rfl, HBA.out⟩
  | true =>
    refine (ref_in_of2 k 1 11 _ h1 _).mono ?_; rintro e w1 ⟨rfl, rfl⟩
    have hk : 1 ≤ k ∧ k < 12 := by simpa [inD] using h1
    have H1 := Lib.hid h1
    clear h1
    have hc0 := HB1.out.cell 0
    have hc3 := HB1.out.cell 3
    simp only [List.getElem?_cons_zero, List.getElem?_cons_succ] at hc0 hc3
    go_wp2_with fail
    go_quiet (fail)
    have HBN := Lib.hid (HBA.out.trans (pw_below_drewN (Below.refl w.heap.size _) nq))
    have HB3 := Lib.hid (show Blk (w1.drewN nq) w.heap.size TRW (v.cells d) from HB1.out)
    have HB4 := Lib.hid (show Blk (w1.drewN nq) (w.heap.size + 1) TRX _ from HB2.out)
    clear hc0 hc3 HBA HB1 HB2 ha0
    generalize w1.drewN nq = wB at *
    have hc0 := HB3.out.cell 0
    have ha0 := HB4.out.cell 0
    have ha1 := HB4.out.cell 1
    have ha2 := HB4.out.cell 2
    have ha3 := HB4.out.cell 3
    have ha4 := HB4.out.cell 4
    simp only [List.getElem?_cons_zero, List.getElem?_cons_succ] at hc0 ha0 ha1 ha2 ha3 ha4
    by_cases h7 : k ≥ 7
    · cases h2 : inD at_ 0 d.states.length
      all_goals
        have hs : refD d k at_ a b c = if inD at_ 0 d.states.length then 0 else 1 := by unfold refD; rw [if_neg (by rw [H1.out]; decide), if_pos h7]
        rw [h2] at hs
        simp only [if_true, Bool.false_eq_true, if_false] at hs
        rw [hs] at HQ'
        have H2 := Lib.hid (fun w => ref_in_of at_ 0 d.states.length _ h2 w)
        clear hs h2
        go_wp2_with fail
        refine (H2.out _).mono ?_; rintro e w1 ⟨rfl, rfl⟩
        go_wp2
        exact HQ'.out _ _ ⟨rfl, HBN.out⟩
    cases h2 : inD at_ 0 d.fields.length with
    | false =>
      have hs : refD d k at_ a b c = 1 := by unfold refD; rw [if_neg (by rw [H1.out]; decide), if_neg h7, if_pos h2]
      rw [hs] at HQ'
      have H2 := Lib.hid (fun w => ref_in_of at_ 0 d.fields.length _ h2 w)
      clear hs h2
      go_wp2_with fail
      refine (H2.out _).mono ?_; rintro e w1 ⟨rfl, rfl⟩
      go_wp2
      exact HQ'.out _ _ ⟨rfl, HBN.out⟩
    | true =>
      have hat : 0 ≤ at_ ∧ at_ < d.fields.length := by simpa [inD] using h2
      obtain ⟨i, rfl⟩ : ∃ i : Nat, at_ = i := ⟨at_.toNat, by omega⟩
      obtain ⟨ad, A', c', hA, hcr0⟩ := row_at' HV.out.h0 (j := i) (by omega)
      have hcr := pw_cell_below HBN.out hcr0
      have hrl := HR.out _ (getD_mem (show i < d.fields.length by omega) [])
      have hrd : refD d k i a b c = if k = 1 then (if inD a 0 (d.fields.getD i []).length then 0 else 1)
          else if k = 2 then (if inD a 0 (d.fields.getD i []).length && inD b (-1) d.fields.length && inD c (-1) d.fields.length then 0 else 1)
          else if k = 4 then (if inD b (-1) d.states.length && inD c 0 d.states.length then 0 else 1) else 0 := by
        unfold refD; rw [if_neg (by rw [H1.out]; decide), if_neg h7, if_neg (by rw [h2]; decide), Int.toNat_natCast]
      have HRD := Lib.hid hrd
      clear hrd
      generalize d.fields.getD i [] = row at *
      have H2 := Lib.hid (fun w => ref_in_of (i : Int) 0 d.fields.length _ h2 w)
      obtain ⟨A0, c0, A1, c1, A2, c2, A3, c3, A4, c4⟩ := v
      simp only at hA hc0
      subst hA
      have hi0 : i < d.fields.length := by omega
      clear h2 hcr0
      by_cases hk1 : k = 1
      · subst hk1
        have hs := HRD.out
        rw [if_pos rfl] at hs
        cases h3 : inD a 0 row.length
        all_goals
          rw [h3] at hs
          simp only [if_true, Bool.false_eq_true, if_false] at hs
          rw [hs] at HQ'
          have H3 := Lib.hid (fun w => ref_in_of a 0 row.length _ h3 w)
          clear hs h3
          go_wp2_with fail
          refine (H2.out _).mono ?_; rintro e w1 ⟨rfl, rfl⟩
          go_wp2_with fail
          go_quiet ((go_at_call 100; exact Calls.quiet_of_same (H3.out _)))
          go_wp2
          exact HQ'.out _ _ ⟨rfl, pw_below_drewN HBN.out _⟩
      by_cases hk2 : k = 2
      · subst hk2
        have hs := HRD.out
        rw [if_neg (by decide), if_pos rfl] at hs
        cases h3 : inD a 0 row.length
        · rw [h3] at hs
          simp only [Bool.false_and, Bool.false_eq_true, if_false] at hs
          rw [hs] at HQ'
          have H3 := Lib.hid (fun w => ref_in_of a 0 row.length _ h3 w)
          clear hs
          go_wp2_with fail
          refine (H2.out _).mono ?_; rintro e w1 ⟨rfl, rfl⟩
          go_wp2_with fail
          go_quiet ((go_at_call 100; exact Calls.quiet_of_same (H3.out _)))
          clear h3
          go_wp2
          exact HQ'.out _ _ ⟨rfl, pw_below_drewN HBN.out _⟩
        cases h4 : inD b (-1) d.fields.length
        · rw [h3, h4] at hs
          simp only [Bool.and_false, Bool.false_and, Bool.true_and, Bool.false_eq_true, if_false] at hs
          rw [hs] at HQ'
          have H4 := Lib.hid (fun w => ref_in_of b (-1) d.fields.length _ h4 w)
          have H3 := Lib.hid (fun w => ref_in_of a 0 row.length _ h3 w)
          clear hs
          go_wp2_with fail
          refine (H2.out _).mono ?_; rintro e w1 ⟨rfl, rfl⟩
          go_wp2_with fail
          go_quiet ((go_at_call 100; exact Calls.quiet_of_same (H3.out _)))
          clear h3 h4
          go_wp2_with fail
          refine (H4.out _).mono ?_; rintro e w1 ⟨rfl, rfl⟩
          go_wp2
          exact HQ'.out _ _ ⟨rfl, pw_below_drewN HBN.out _⟩
        cases h5 : inD c (-1) d.fields.length
        all_goals
          rw [h3, h4, h5] at hs
          simp only [Bool.and_false, Bool.and_true, Bool.false_and, Bool.true_and, Bool.false_eq_true, if_false, if_true] at hs
          rw [hs] at HQ'
          have H4 := Lib.hid (fun w => ref_in_of b (-1) d.fields.length _ h4 w)
          have H5 := Lib.hid (fun w => ref_in_of c (-1) d.fields.length _ h5 w)
          have H3 := Lib.hid (fun w => ref_in_of a 0 row.length _ h3 w)
          clear hs
          go_wp2_with fail
          refine (H2.out _).mono ?_; rintro e w1 ⟨rfl, rfl⟩
          go_wp2_with fail
          go_quiet ((go_at_call 100; exact Calls.quiet_of_same (H3.out _)))
          clear h3 h4 h5
          go_wp2_with fail
          refine (H4.out _).mono ?_; rintro e w1 ⟨rfl, rfl⟩
          go_wp2_with fail
          refine (H5.out _).mono ?_; rintro e w1 ⟨rfl, rfl⟩
          go_wp2
          exact HQ'.out _ _ ⟨rfl, pw_below_drewN HBN.out _⟩
      by_cases hk4 : k = 4
      · subst hk4
        have hs := HRD.out
        rw [if_neg (by decide), if_neg (by decide), if_pos rfl] at hs
        cases h4 : inD b (-1) d.states.length
        · rw [h4] at hs
          simp only [Bool.false_and, Bool.false_eq_true, if_false] at hs
          rw [hs] at HQ'
          have H4 := Lib.hid (fun w => ref_in_of b (-1) d.states.length _ h4 w)
          clear hs h4
          go_wp2_with fail
          refine (H2.out _).mono ?_; rintro e w1 ⟨rfl, rfl⟩
          go_wp2_with fail
          refine (H4.out _).mono ?_; rintro e w1 ⟨rfl, rfl⟩
          go_wp2
          exact HQ'.out _ _ ⟨rfl, HBN.out⟩
        cases h5 : inD c 0 d.states.length
        all_goals
          rw [h4, h5] at hs
          simp only [Bool.and_false, Bool.and_true, Bool.false_and, Bool.true_and, Bool.false_eq_true, if_false, if_true] at hs
          rw [hs] at HQ'
          have H4 := Lib.hid (fun w => ref_in_of b (-1) d.states.length _ h4 w)
          have H5 := Lib.hid (fun w => ref_in_of c 0 d.states.length _ h5 w)
          clear hs h4 h5
          go_wp2_with fail
          refine (H2.out _).mono ?_; rintro e w1 ⟨rfl, rfl⟩
          go_wp2_with fail
          refine (H4.out _).mono ?_; rintro e w1 ⟨rfl, rfl⟩
          go_wp2_with fail
          refine (H5.out _).mono ?_; rintro e w1 ⟨rfl, rfl⟩
          go_wp2
          exact HQ'.out _ _ ⟨rfl, HBN.out⟩
      have hs := HRD.out
      rw [if_neg hk1, if_neg hk2, if_neg hk4] at hs
      rw [hs] at HQ'
      clear hs
      have hk3 : k = 3 ∨ k = 5 ∨ k = 6 := by omega
      rcases hk3 with rfl | rfl | rfl
      all_goals
        clear hk1 hk2 hk4
        go_wp2_with fail
        refine (H2.out _).mono ?_; rintro e w1 ⟨rfl, rfl⟩
        go_wp2
        exact HQ'.out _ _ ⟨rfl, HBN.out⟩
end Go.Proofs.Ytphhdmopfmelbaa

/- larchref12: Do. Written by p_do12.py. -/
namespace Go.Proofs.Ytphhdmopfmelbaa
open Go.RowKit Go.Proofs.YtphhdmopfmelbaaW.PrintWords
set_option linter.unusedVariables false
set_option linter.unusedSimpArgs false

/-- What Do says: the answer, the kind; the world behind it. -/
def DoPost (B : Nat) (w : World) (fv iv mv sv zv : Value) (us : List Value) (r : Int × WD) (kk : Int) (e : Ending) (w' : World) : Prop :=
  e = .returned (.tuple #[.int .i64 r.1, .int .i64 kk]) ∧ OutW B r.2 fv iv mv sv zv us w' ∧ Fr w w' (OutFoot fv iv mv sv zv us)

set_option maxHeartbeats 1000000 in
set_option maxRecDepth 100000 in
theorem ref_do_1 {B : Nat} {d : WD} {fv iv mv sv zv : Value} {us : List Value} {w : World} (h : OutW B d fv iv mv sv zv us w) (hF : d.Form) (i : Nat) (a b c : Int) (f : d.Fit 1 i a b c) :
    Calls Try.prog 46 #[.agg #[fv, iv, mv, sv, zv], .agg #[.int .i64 1, .int .i64 i, .int .i64 a, .int .i64 b, .int .i64 c]] w (DoPost B w fv iv mv sv zv us ((d.fields.getD i []).getD a.toNat 0, d) 1) := by
  refine calls_hide fun Q HQ => ?_
  have hi : i < d.fields.length := by have := f.at1 (by decide); omega
  have hA := f.a0 (by decide)
  rw [Int.toNat_natCast] at hA
  obtain ⟨q, rfl⟩ : ∃ q : Nat, a = q := ⟨a.toNat, by omega⟩
  rw [Int.toNat_natCast] at HQ
  have hq : q < (d.fields.getD i []).length := by omega
  obtain ⟨ad, cc, ad2, cc2, rfl, hcr0, hcell0, hs0⟩ := h.atF hi hq
  have hrl : (d.fields.getD i []).length ≤ 64 := hF.l1 _ (getD_mem hi [])
  clear hA f
  generalize d.fields.getD i [] = row at *
  generalize row.getD q 0 = x at *
  have HQ' := Lib.hid HQ
  have hl0 := hF.l0
  have hl3 := hF.l3
  have HC := Lib.hid hcell0
  have HCR := Lib.hid hcr0
  have HS := Lib.hid hs0
  have hba := ((Below.refl w.heap.size w).alloc (Nat.le_refl _) (.cells #[.slice (some ad) d.fields.length cc, iv, mv, sv, zv] TRW)).alloc (by simp) (.cells #[.int .i64 1, .int .i64 i, .int .i64 q, .int .i64 b, .int .i64 c] TRX)
  have hb1 := (Blk.new w TRW [.slice (some ad) d.fields.length cc, iv, mv, sv, zv]).alloc (.cells #[.int .i64 1, .int .i64 i, .int .i64 q, .int .i64 b, .int .i64 c] TRX)
  have hb2 := Blk.new (w.alloc (.cells #[.slice (some ad) d.fields.length cc, iv, mv, sv, zv] TRW)) TRX [.int .i64 1, .int .i64 i, .int .i64 q, .int .i64 b, .int .i64 c]
  rw [World.size_alloc] at hb2
  have HBA := Lib.hid hba
  have HBP := Lib.hid hb1
  have HBX := Lib.hid (show Blk ((w.alloc (.cells #[.slice (some ad) d.fields.length cc, iv, mv, sv, zv] TRW)).alloc (.cells #[.int .i64 1, .int .i64 i, .int .i64 q, .int .i64 b, .int .i64 c] TRX)) (w.heap.size + 1) TRX _ from hb2)
  have HOA := Lib.hid (h.below hba)
  clear HQ h hcell0 hs0 hba hb1 hb2 hcr0
  clear hF
  have hc0 := HBP.out.cell 0
  have hc1 := HBP.out.cell 1
  have hc2 := HBP.out.cell 2
  have hc3 := HBP.out.cell 3
  have hc4 := HBP.out.cell 4
  have ha0 := HBX.out.cell 0
  have ha1 := HBX.out.cell 1
  have ha2 := HBX.out.cell 2
  have ha3 := HBX.out.cell 3
  have ha4 := HBX.out.cell 4
  simp only [List.getElem?_cons_zero, List.getElem?_cons_succ] at hc0 hc1 hc2 hc3 hc4 ha0 ha1 ha2 ha3 ha4
  have hcell := pw_cell_below HBA.out HC.out
  have hrow := pw_cell_below HBA.out HCR.out
  have hfz := (HS.out _ HOA.out).1
  go_enter Try.func46, Try.ntmps46
  go_wp2_with fail
  generalize (w.alloc (.cells #[.slice (some ad) d.fields.length cc, iv, mv, sv, zv] TRW)).alloc (.cells #[.int .i64 1, .int .i64 i, .int .i64 q, .int .i64 b, .int .i64 c] TRX) = wA at *
  go_quiet (fail)
  have HBN := Lib.hid (HBA.out.trans (pw_below_drewN (Below.refl w.heap.size _) nq))
  have HBPN := Lib.hid (show Blk (wA.drewN nq) w.heap.size TRW _ from HBP.out)
  have HBXN := Lib.hid (show Blk (wA.drewN nq) (w.heap.size + 1) TRX _ from HBX.out)
  have HOAN := Lib.hid (HOA.out.below (pw_below_drewN (Below.refl wA.heap.size _) nq))
  clear hc0 hc1 hc2 hc3 hc4 ha0 ha1 ha2 ha3 ha4 hcell hfz HBA HBP HBX HOA hrow
  generalize wA.drewN nq = wB at *
  have HBA := HBN
  have HBP := HBPN
  have HBX := HBXN
  have HOA := HOAN
  clear HBN HBPN HBXN HOAN
  have hc0 := HBP.out.cell 0
  have hc1 := HBP.out.cell 1
  have hc2 := HBP.out.cell 2
  have hc3 := HBP.out.cell 3
  have hc4 := HBP.out.cell 4
  have ha0 := HBX.out.cell 0
  have ha1 := HBX.out.cell 1
  have ha2 := HBX.out.cell 2
  have ha3 := HBX.out.cell 3
  have ha4 := HBX.out.cell 4
  simp only [List.getElem?_cons_zero, List.getElem?_cons_succ] at hc0 hc1 hc2 hc3 hc4 ha0 ha1 ha2 ha3 ha4
  have hcell := pw_cell_below HBA.out HC.out
  have hrow := pw_cell_below HBA.out HCR.out
  have hfz := (HS.out _ HOA.out).1
  go_wp2
  exact HQ'.out _ _ ⟨rfl, HOA.out, Fr.of_below0 HBA.out⟩

set_option maxHeartbeats 1000000 in
set_option maxRecDepth 100000 in
theorem ref_do_2 {B : Nat} {d : WD} {fv iv mv sv zv : Value} {us : List Value} {w : World} (h : OutW B d fv iv mv sv zv us w) (hF : d.Form) (i : Nat) (a b c : Int) (f : d.Fit 2 i a b c) :
    Calls Try.prog 46 #[.agg #[fv, iv, mv, sv, zv], .agg #[.int .i64 2, .int .i64 i, .int .i64 a, .int .i64 b, .int .i64 c]] w (DoPost B w fv iv mv sv zv us ((if (d.fields.getD i []).getD a.toNat 0 = b then 1 else 0), (if (d.fields.getD i []).getD a.toNat 0 = b then { d with fields := d.fields.set i ((d.fields.getD i []).set a.toNat c) } else d)) 5) := by
  refine calls_hide fun Q HQ => ?_
  have hi : i < d.fields.length := by have := f.at1 (by decide); omega
  have hA := f.a0 (by decide)
  rw [Int.toNat_natCast] at hA
  obtain ⟨q, rfl⟩ : ∃ q : Nat, a = q := ⟨a.toNat, by omega⟩
  rw [Int.toNat_natCast] at HQ
  have hq : q < (d.fields.getD i []).length := by omega
  obtain ⟨ad, cc, ad2, cc2, rfl, hcr0, hcell0, hs0⟩ := h.atF hi hq
  have hrl : (d.fields.getD i []).length ≤ 64 := hF.l1 _ (getD_mem hi [])
  clear hA f
  generalize d.fields.getD i [] = row at *
  generalize row.getD q 0 = x at *
  have HQ' := Lib.hid HQ
  have hl0 := hF.l0
  have hl3 := hF.l3
  have HC := Lib.hid hcell0
  have HCR := Lib.hid hcr0
  have HS := Lib.hid hs0
  have hba := ((Below.refl w.heap.size w).alloc (Nat.le_refl _) (.cells #[.slice (some ad) d.fields.length cc, iv, mv, sv, zv] TRW)).alloc (by simp) (.cells #[.int .i64 2, .int .i64 i, .int .i64 q, .int .i64 b, .int .i64 c] TRX)
  have hb1 := (Blk.new w TRW [.slice (some ad) d.fields.length cc, iv, mv, sv, zv]).alloc (.cells #[.int .i64 2, .int .i64 i, .int .i64 q, .int .i64 b, .int .i64 c] TRX)
  have hb2 := Blk.new (w.alloc (.cells #[.slice (some ad) d.fields.length cc, iv, mv, sv, zv] TRW)) TRX [.int .i64 2, .int .i64 i, .int .i64 q, .int .i64 b, .int .i64 c]
  rw [World.size_alloc] at hb2
  have HBA := Lib.hid hba
  have HBP := Lib.hid hb1
  have HBX := Lib.hid (show Blk ((w.alloc (.cells #[.slice (some ad) d.fields.length cc, iv, mv, sv, zv] TRW)).alloc (.cells #[.int .i64 2, .int .i64 i, .int .i64 q, .int .i64 b, .int .i64 c] TRX)) (w.heap.size + 1) TRX _ from hb2)
  have HOA := Lib.hid (h.below hba)
  clear HQ h hcell0 hs0 hba hb1 hb2 hcr0
  clear hF
  have hc0 := HBP.out.cell 0
  have hc1 := HBP.out.cell 1
  have hc2 := HBP.out.cell 2
  have hc3 := HBP.out.cell 3
  have hc4 := HBP.out.cell 4
  have ha0 := HBX.out.cell 0
  have ha1 := HBX.out.cell 1
  have ha2 := HBX.out.cell 2
  have ha3 := HBX.out.cell 3
  have ha4 := HBX.out.cell 4
  simp only [List.getElem?_cons_zero, List.getElem?_cons_succ] at hc0 hc1 hc2 hc3 hc4 ha0 ha1 ha2 ha3 ha4
  have hcell := pw_cell_below HBA.out HC.out
  have hrow := pw_cell_below HBA.out HCR.out
  have hfz := (HS.out _ HOA.out).1
  go_enter Try.func46, Try.ntmps46
  go_wp2_with fail
  generalize (w.alloc (.cells #[.slice (some ad) d.fields.length cc, iv, mv, sv, zv] TRW)).alloc (.cells #[.int .i64 2, .int .i64 i, .int .i64 q, .int .i64 b, .int .i64 c] TRX) = wA at *
  by_cases hxb : x = b
  · subst hxb
    rw [if_pos rfl, if_pos rfl] at HQ'
    go_quiet (fail)
    have HBN := Lib.hid (HBA.out.trans (pw_below_drewN (Below.refl w.heap.size _) nq))
    have HBPN := Lib.hid (show Blk (wA.drewN nq) w.heap.size TRW _ from HBP.out)
    have HBXN := Lib.hid (show Blk (wA.drewN nq) (w.heap.size + 1) TRX _ from HBX.out)
    have HOAN := Lib.hid (HOA.out.below (pw_below_drewN (Below.refl wA.heap.size _) nq))
    clear hc0 hc1 hc2 hc3 hc4 ha0 ha1 ha2 ha3 ha4 hcell hfz HBA HBP HBX HOA hrow
    generalize wA.drewN nq = wB at *
    have HBA := HBN
    have HBP := HBPN
    have HBX := HBXN
    have HOA := HOAN
    clear HBN HBPN HBXN HOAN
    have hc0 := HBP.out.cell 0
    have hc1 := HBP.out.cell 1
    have hc2 := HBP.out.cell 2
    have hc3 := HBP.out.cell 3
    have hc4 := HBP.out.cell 4
    have ha0 := HBX.out.cell 0
    have ha1 := HBX.out.cell 1
    have ha2 := HBX.out.cell 2
    have ha3 := HBX.out.cell 3
    have ha4 := HBX.out.cell 4
    simp only [List.getElem?_cons_zero, List.getElem?_cons_succ] at hc0 hc1 hc2 hc3 hc4 ha0 ha1 ha2 ha3 ha4
    have hcell := pw_cell_below HBA.out HC.out
    have hrow := pw_cell_below HBA.out HCR.out
    have hfz := (HS.out _ HOA.out).1
    go_wp2_with fail
    refine wp_region_still_tail 10 (by kernel_rfl) (by kernel_rfl) ?_
    simp only [List.take_succ_cons, List.take_zero, List.drop_succ_cons, List.drop_zero]
    iterate 10 still_step
    refine wpStill_nil ?_
    change wpList _ _ _ _ _ wB.drew
    have HBN := Lib.hid HBA.out.drew
    have HBPN := Lib.hid (show Blk wB.drew w.heap.size TRW _ from HBP.out)
    have HBXN := Lib.hid (show Blk wB.drew (w.heap.size + 1) TRX _ from HBX.out)
    have HOAN := Lib.hid (HOA.out.below (Below.refl wB.heap.size _).drew)
    clear hc0 hc1 hc2 hc3 hc4 ha0 ha1 ha2 ha3 ha4 hcell hfz hrow HBA HBP HBX HOA
    generalize wB.drew = wC at *
    have HBA := HBN
    have HBP := HBPN
    have HBX := HBXN
    have HOA := HOAN
    clear HBN HBPN HBXN HOAN
    have hc0 := HBP.out.cell 0
    have hc1 := HBP.out.cell 1
    have hc2 := HBP.out.cell 2
    have hc3 := HBP.out.cell 3
    have hc4 := HBP.out.cell 4
    have ha0 := HBX.out.cell 0
    have ha1 := HBX.out.cell 1
    have ha2 := HBX.out.cell 2
    have ha3 := HBX.out.cell 3
    have ha4 := HBX.out.cell 4
    simp only [List.getElem?_cons_zero, List.getElem?_cons_succ] at hc0 hc1 hc2 hc3 hc4 ha0 ha1 ha2 ha3 ha4
    have hcell := pw_cell_below HBA.out HC.out
    have hrow := pw_cell_below HBA.out HCR.out
    have hfz := (HS.out _ HOA.out).1
    go_wp2_with fail
    refine (ref_bit _ _).mono ?_
    rintro e w1 ⟨rfl, rfl⟩
    go_wp2
    exact HQ'.out _ _ ⟨rfl, ((HS.out _ HOA.out).2 c).1, (Fr.of_below0 HBA.out).trans ((HS.out _ HOA.out).2 c).2 (fun _ _ h => h)⟩
  · rw [if_neg hxb, if_neg hxb] at HQ'
    go_quiet (fail)
    have HBN := Lib.hid (HBA.out.trans (pw_below_drewN (Below.refl w.heap.size _) nq))
    have HBPN := Lib.hid (show Blk (wA.drewN nq) w.heap.size TRW _ from HBP.out)
    have HBXN := Lib.hid (show Blk (wA.drewN nq) (w.heap.size + 1) TRX _ from HBX.out)
    have HOAN := Lib.hid (HOA.out.below (pw_below_drewN (Below.refl wA.heap.size _) nq))
    clear hc0 hc1 hc2 hc3 hc4 ha0 ha1 ha2 ha3 ha4 hcell hfz HBA HBP HBX HOA hrow
    generalize wA.drewN nq = wB at *
    have HBA := HBN
    have HBP := HBPN
    have HBX := HBXN
    have HOA := HOAN
    clear HBN HBPN HBXN HOAN
    have hc0 := HBP.out.cell 0
    have hc1 := HBP.out.cell 1
    have hc2 := HBP.out.cell 2
    have hc3 := HBP.out.cell 3
    have hc4 := HBP.out.cell 4
    have ha0 := HBX.out.cell 0
    have ha1 := HBX.out.cell 1
    have ha2 := HBX.out.cell 2
    have ha3 := HBX.out.cell 3
    have ha4 := HBX.out.cell 4
    simp only [List.getElem?_cons_zero, List.getElem?_cons_succ] at hc0 hc1 hc2 hc3 hc4 ha0 ha1 ha2 ha3 ha4
    have hcell := pw_cell_below HBA.out HC.out
    have hrow := pw_cell_below HBA.out HCR.out
    have hfz := (HS.out _ HOA.out).1
    go_wp2_with fail
    refine (ref_bit _ _).mono ?_
    rintro e w1 ⟨rfl, rfl⟩
    go_wp2
    exact HQ'.out _ _ ⟨rfl, HOA.out, Fr.of_below0 HBA.out⟩

set_option maxHeartbeats 1000000 in
set_option maxRecDepth 100000 in
theorem ref_do_3 {B : Nat} {d : WD} {fv iv mv sv zv : Value} {us : List Value} {w : World} (h : OutW B d fv iv mv sv zv us w) (hF : d.Form) (i : Nat) (a b c : Int) (f : d.Fit 3 i a b c) :
    Calls Try.prog 46 #[.agg #[fv, iv, mv, sv, zv], .agg #[.int .i64 3, .int .i64 i, .int .i64 a, .int .i64 b, .int .i64 c]] w (DoPost B w fv iv mv sv zv us (d.infos.getD i 0, d) 1) := by
  refine calls_hide fun Q HQ => ?_
  have hi : i < d.fields.length := by have := f.at1 (by decide); omega
  have hj : i < d.infos.length := by rw [hF.e1]; exact hi
  obtain ⟨ad, cc, rfl, hcell0, hs0⟩ := h.atI hj
  generalize d.infos.getD i 0 = x at *
  have HQ' := Lib.hid HQ
  have hl0 := hF.l0
  have hl3 := hF.l3
  have HC := Lib.hid hcell0
  have HS := Lib.hid hs0
  have hba := ((Below.refl w.heap.size w).alloc (Nat.le_refl _) (.cells #[fv, .slice (some ad) d.infos.length cc, mv, sv, zv] TRW)).alloc (by simp) (.cells #[.int .i64 3, .int .i64 i, .int .i64 a, .int .i64 b, .int .i64 c] TRX)
  have hb1 := (Blk.new w TRW [fv, .slice (some ad) d.infos.length cc, mv, sv, zv]).alloc (.cells #[.int .i64 3, .int .i64 i, .int .i64 a, .int .i64 b, .int .i64 c] TRX)
  have hb2 := Blk.new (w.alloc (.cells #[fv, .slice (some ad) d.infos.length cc, mv, sv, zv] TRW)) TRX [.int .i64 3, .int .i64 i, .int .i64 a, .int .i64 b, .int .i64 c]
  rw [World.size_alloc] at hb2
  have HBA := Lib.hid hba
  have HBP := Lib.hid hb1
  have HBX := Lib.hid (show Blk ((w.alloc (.cells #[fv, .slice (some ad) d.infos.length cc, mv, sv, zv] TRW)).alloc (.cells #[.int .i64 3, .int .i64 i, .int .i64 a, .int .i64 b, .int .i64 c] TRX)) (w.heap.size + 1) TRX _ from hb2)
  have HOA := Lib.hid (h.below hba)
  clear HQ h hcell0 hs0 hba hb1 hb2
  have hjl : d.infos.length ≤ 64 := by rw [hF.e1]; exact hl0
  clear hF f
  have hc0 := HBP.out.cell 0
  have hc1 := HBP.out.cell 1
  have hc2 := HBP.out.cell 2
  have hc3 := HBP.out.cell 3
  have hc4 := HBP.out.cell 4
  have ha0 := HBX.out.cell 0
  have ha1 := HBX.out.cell 1
  have ha2 := HBX.out.cell 2
  have ha3 := HBX.out.cell 3
  have ha4 := HBX.out.cell 4
  simp only [List.getElem?_cons_zero, List.getElem?_cons_succ] at hc0 hc1 hc2 hc3 hc4 ha0 ha1 ha2 ha3 ha4
  have hcell := pw_cell_below HBA.out HC.out
  have hfz := (HS.out _ HOA.out).1
  go_enter Try.func46, Try.ntmps46
  go_wp2
  exact HQ'.out _ _ ⟨rfl, HOA.out, Fr.of_below0 HBA.out⟩

set_option maxHeartbeats 1000000 in
set_option maxRecDepth 100000 in
theorem ref_do_4 {B : Nat} {d : WD} {fv iv mv sv zv : Value} {us : List Value} {w : World} (h : OutW B d fv iv mv sv zv us w) (hF : d.Form) (i : Nat) (a b c : Int) (f : d.Fit 4 i a b c) :
    Calls Try.prog 46 #[.agg #[fv, iv, mv, sv, zv], .agg #[.int .i64 4, .int .i64 i, .int .i64 a, .int .i64 b, .int .i64 c]] w (DoPost B w fv iv mv sv zv us ((if d.infos.getD i 0 = b then 1 else 0), (if d.infos.getD i 0 = b then { d with infos := d.infos.set i c } else d)) 5) := by
  refine calls_hide fun Q HQ => ?_
  have hi : i < d.fields.length := by have := f.at1 (by decide); omega
  have hj : i < d.infos.length := by rw [hF.e1]; exact hi
  obtain ⟨ad, cc, rfl, hcell0, hs0⟩ := h.atI hj
  generalize d.infos.getD i 0 = x at *
  have HQ' := Lib.hid HQ
  have hl0 := hF.l0
  have hl3 := hF.l3
  have HC := Lib.hid hcell0
  have HS := Lib.hid hs0
  have hba := ((Below.refl w.heap.size w).alloc (Nat.le_refl _) (.cells #[fv, .slice (some ad) d.infos.length cc, mv, sv, zv] TRW)).alloc (by simp) (.cells #[.int .i64 4, .int .i64 i, .int .i64 a, .int .i64 b, .int .i64 c] TRX)
  have hb1 := (Blk.new w TRW [fv, .slice (some ad) d.infos.length cc, mv, sv, zv]).alloc (.cells #[.int .i64 4, .int .i64 i, .int .i64 a, .int .i64 b, .int .i64 c] TRX)
  have hb2 := Blk.new (w.alloc (.cells #[fv, .slice (some ad) d.infos.length cc, mv, sv, zv] TRW)) TRX [.int .i64 4, .int .i64 i, .int .i64 a, .int .i64 b, .int .i64 c]
  rw [World.size_alloc] at hb2
  have HBA := Lib.hid hba
  have HBP := Lib.hid hb1
  have HBX := Lib.hid (show Blk ((w.alloc (.cells #[fv, .slice (some ad) d.infos.length cc, mv, sv, zv] TRW)).alloc (.cells #[.int .i64 4, .int .i64 i, .int .i64 a, .int .i64 b, .int .i64 c] TRX)) (w.heap.size + 1) TRX _ from hb2)
  have HOA := Lib.hid (h.below hba)
  clear HQ h hcell0 hs0 hba hb1 hb2
  have hjl : d.infos.length ≤ 64 := by rw [hF.e1]; exact hl0
  clear hF f
  have hc0 := HBP.out.cell 0
  have hc1 := HBP.out.cell 1
  have hc2 := HBP.out.cell 2
  have hc3 := HBP.out.cell 3
  have hc4 := HBP.out.cell 4
  have ha0 := HBX.out.cell 0
  have ha1 := HBX.out.cell 1
  have ha2 := HBX.out.cell 2
  have ha3 := HBX.out.cell 3
  have ha4 := HBX.out.cell 4
  simp only [List.getElem?_cons_zero, List.getElem?_cons_succ] at hc0 hc1 hc2 hc3 hc4 ha0 ha1 ha2 ha3 ha4
  have hcell := pw_cell_below HBA.out HC.out
  have hfz := (HS.out _ HOA.out).1
  go_enter Try.func46, Try.ntmps46
  go_wp2_with fail
  generalize (w.alloc (.cells #[fv, .slice (some ad) d.infos.length cc, mv, sv, zv] TRW)).alloc (.cells #[.int .i64 4, .int .i64 i, .int .i64 a, .int .i64 b, .int .i64 c] TRX) = wA at *
  by_cases hxb : x = b
  · subst hxb
    rw [if_pos rfl, if_pos rfl] at HQ'
    go_quiet (fail)
    have HBN := Lib.hid (HBA.out.trans (pw_below_drewN (Below.refl w.heap.size _) nq))
    have HBPN := Lib.hid (show Blk (wA.drewN nq) w.heap.size TRW _ from HBP.out)
    have HBXN := Lib.hid (show Blk (wA.drewN nq) (w.heap.size + 1) TRX _ from HBX.out)
    have HOAN := Lib.hid (HOA.out.below (pw_below_drewN (Below.refl wA.heap.size _) nq))
    clear hc0 hc1 hc2 hc3 hc4 ha0 ha1 ha2 ha3 ha4 hcell hfz HBA HBP HBX HOA
    generalize wA.drewN nq = wB at *
    have HBA := HBN
    have HBP := HBPN
    have HBX := HBXN
    have HOA := HOAN
    clear HBN HBPN HBXN HOAN
    have hc0 := HBP.out.cell 0
    have hc1 := HBP.out.cell 1
    have hc2 := HBP.out.cell 2
    have hc3 := HBP.out.cell 3
    have hc4 := HBP.out.cell 4
    have ha0 := HBX.out.cell 0
    have ha1 := HBX.out.cell 1
    have ha2 := HBX.out.cell 2
    have ha3 := HBX.out.cell 3
    have ha4 := HBX.out.cell 4
    simp only [List.getElem?_cons_zero, List.getElem?_cons_succ] at hc0 hc1 hc2 hc3 hc4 ha0 ha1 ha2 ha3 ha4
    have hcell := pw_cell_below HBA.out HC.out
    have hfz := (HS.out _ HOA.out).1
    go_wp2_with fail
    refine (ref_bit _ _).mono ?_
    rintro e w1 ⟨rfl, rfl⟩
    go_wp2
    exact HQ'.out _ _ ⟨rfl, ((HS.out _ HOA.out).2 c).1, (Fr.of_below0 HBA.out).trans ((HS.out _ HOA.out).2 c).2 (fun _ _ h => h)⟩
  · rw [if_neg hxb, if_neg hxb] at HQ'
    go_quiet (fail)
    have HBN := Lib.hid (HBA.out.trans (pw_below_drewN (Below.refl w.heap.size _) nq))
    have HBPN := Lib.hid (show Blk (wA.drewN nq) w.heap.size TRW _ from HBP.out)
    have HBXN := Lib.hid (show Blk (wA.drewN nq) (w.heap.size + 1) TRX _ from HBX.out)
    have HOAN := Lib.hid (HOA.out.below (pw_below_drewN (Below.refl wA.heap.size _) nq))
    clear hc0 hc1 hc2 hc3 hc4 ha0 ha1 ha2 ha3 ha4 hcell hfz HBA HBP HBX HOA
    generalize wA.drewN nq = wB at *
    have HBA := HBN
    have HBP := HBPN
    have HBX := HBXN
    have HOA := HOAN
    clear HBN HBPN HBXN HOAN
    have hc0 := HBP.out.cell 0
    have hc1 := HBP.out.cell 1
    have hc2 := HBP.out.cell 2
    have hc3 := HBP.out.cell 3
    have hc4 := HBP.out.cell 4
    have ha0 := HBX.out.cell 0
    have ha1 := HBX.out.cell 1
    have ha2 := HBX.out.cell 2
    have ha3 := HBX.out.cell 3
    have ha4 := HBX.out.cell 4
    simp only [List.getElem?_cons_zero, List.getElem?_cons_succ] at hc0 hc1 hc2 hc3 hc4 ha0 ha1 ha2 ha3 ha4
    have hcell := pw_cell_below HBA.out HC.out
    have hfz := (HS.out _ HOA.out).1
    go_wp2_with fail
    refine (ref_bit _ _).mono ?_
    rintro e w1 ⟨rfl, rfl⟩
    go_wp2
    exact HQ'.out _ _ ⟨rfl, HOA.out, Fr.of_below0 HBA.out⟩

set_option maxHeartbeats 1000000 in
set_option maxRecDepth 100000 in
theorem ref_do_5 {B : Nat} {d : WD} {fv iv mv sv zv : Value} {us : List Value} {w : World} (h : OutW B d fv iv mv sv zv us w) (hF : d.Form) (i : Nat) (a b c : Int) (f : d.Fit 5 i a b c) :
    Calls Try.prog 46 #[.agg #[fv, iv, mv, sv, zv], .agg #[.int .i64 5, .int .i64 i, .int .i64 a, .int .i64 b, .int .i64 c]] w (DoPost B w fv iv mv sv zv us (bitI (d.marks.getD i false), d) 1) := by
  refine calls_hide fun Q HQ => ?_
  have hi : i < d.fields.length := by have := f.at1 (by decide); omega
  have hj : i < d.marks.length := by rw [hF.e2]; exact hi
  obtain ⟨ad, cc, rfl, hcell0, hs0⟩ := h.atM hj
  generalize d.marks.getD i false = x at *
  have HQ' := Lib.hid HQ
  have hl0 := hF.l0
  have hl3 := hF.l3
  have HC := Lib.hid hcell0
  have HS := Lib.hid hs0
  have hba := ((Below.refl w.heap.size w).alloc (Nat.le_refl _) (.cells #[fv, iv, .slice (some ad) d.marks.length cc, sv, zv] TRW)).alloc (by simp) (.cells #[.int .i64 5, .int .i64 i, .int .i64 a, .int .i64 b, .int .i64 c] TRX)
  have hb1 := (Blk.new w TRW [fv, iv, .slice (some ad) d.marks.length cc, sv, zv]).alloc (.cells #[.int .i64 5, .int .i64 i, .int .i64 a, .int .i64 b, .int .i64 c] TRX)
  have hb2 := Blk.new (w.alloc (.cells #[fv, iv, .slice (some ad) d.marks.length cc, sv, zv] TRW)) TRX [.int .i64 5, .int .i64 i, .int .i64 a, .int .i64 b, .int .i64 c]
  rw [World.size_alloc] at hb2
  have HBA := Lib.hid hba
  have HBP := Lib.hid hb1
  have HBX := Lib.hid (show Blk ((w.alloc (.cells #[fv, iv, .slice (some ad) d.marks.length cc, sv, zv] TRW)).alloc (.cells #[.int .i64 5, .int .i64 i, .int .i64 a, .int .i64 b, .int .i64 c] TRX)) (w.heap.size + 1) TRX _ from hb2)
  have HOA := Lib.hid (h.below hba)
  clear HQ h hcell0 hs0 hba hb1 hb2
  have hjl : d.marks.length ≤ 64 := by rw [hF.e2]; exact hl0
  clear hF f
  have hc0 := HBP.out.cell 0
  have hc1 := HBP.out.cell 1
  have hc2 := HBP.out.cell 2
  have hc3 := HBP.out.cell 3
  have hc4 := HBP.out.cell 4
  have ha0 := HBX.out.cell 0
  have ha1 := HBX.out.cell 1
  have ha2 := HBX.out.cell 2
  have ha3 := HBX.out.cell 3
  have ha4 := HBX.out.cell 4
  simp only [List.getElem?_cons_zero, List.getElem?_cons_succ] at hc0 hc1 hc2 hc3 hc4 ha0 ha1 ha2 ha3 ha4
  have hcell := pw_cell_below HBA.out HC.out
  have hfz := (HS.out _ HOA.out).1
  go_enter Try.func46, Try.ntmps46
  go_wp2_with fail
  refine (ref_bit _ _).mono ?_
  rintro e w1 ⟨rfl, rfl⟩
  go_wp2
  exact HQ'.out _ _ ⟨rfl, HOA.out, Fr.of_below0 HBA.out⟩

set_option maxHeartbeats 1000000 in
set_option maxRecDepth 100000 in
theorem ref_do_6 {B : Nat} {d : WD} {fv iv mv sv zv : Value} {us : List Value} {w : World} (h : OutW B d fv iv mv sv zv us w) (hF : d.Form) (i : Nat) (a b c : Int) (f : d.Fit 6 i a b c) :
    Calls Try.prog 46 #[.agg #[fv, iv, mv, sv, zv], .agg #[.int .i64 6, .int .i64 i, .int .i64 a, .int .i64 b, .int .i64 c]] w (DoPost B w fv iv mv sv zv us (0, { d with marks := d.marks.set i true }) 2) := by
  refine calls_hide fun Q HQ => ?_
  have hi : i < d.fields.length := by have := f.at1 (by decide); omega
  have hj : i < d.marks.length := by rw [hF.e2]; exact hi
  obtain ⟨ad, cc, rfl, hcell0, hs0⟩ := h.atM hj
  generalize d.marks.getD i false = x at *
  have HQ' := Lib.hid HQ
  have hl0 := hF.l0
  have hl3 := hF.l3
  have HC := Lib.hid hcell0
  have HS := Lib.hid hs0
  have hba := ((Below.refl w.heap.size w).alloc (Nat.le_refl _) (.cells #[fv, iv, .slice (some ad) d.marks.length cc, sv, zv] TRW)).alloc (by simp) (.cells #[.int .i64 6, .int .i64 i, .int .i64 a, .int .i64 b, .int .i64 c] TRX)
  have hb1 := (Blk.new w TRW [fv, iv, .slice (some ad) d.marks.length cc, sv, zv]).alloc (.cells #[.int .i64 6, .int .i64 i, .int .i64 a, .int .i64 b, .int .i64 c] TRX)
  have hb2 := Blk.new (w.alloc (.cells #[fv, iv, .slice (some ad) d.marks.length cc, sv, zv] TRW)) TRX [.int .i64 6, .int .i64 i, .int .i64 a, .int .i64 b, .int .i64 c]
  rw [World.size_alloc] at hb2
  have HBA := Lib.hid hba
  have HBP := Lib.hid hb1
  have HBX := Lib.hid (show Blk ((w.alloc (.cells #[fv, iv, .slice (some ad) d.marks.length cc, sv, zv] TRW)).alloc (.cells #[.int .i64 6, .int .i64 i, .int .i64 a, .int .i64 b, .int .i64 c] TRX)) (w.heap.size + 1) TRX _ from hb2)
  have HOA := Lib.hid (h.below hba)
  clear HQ h hcell0 hs0 hba hb1 hb2
  have hjl : d.marks.length ≤ 64 := by rw [hF.e2]; exact hl0
  clear hF f
  have hc0 := HBP.out.cell 0
  have hc1 := HBP.out.cell 1
  have hc2 := HBP.out.cell 2
  have hc3 := HBP.out.cell 3
  have hc4 := HBP.out.cell 4
  have ha0 := HBX.out.cell 0
  have ha1 := HBX.out.cell 1
  have ha2 := HBX.out.cell 2
  have ha3 := HBX.out.cell 3
  have ha4 := HBX.out.cell 4
  simp only [List.getElem?_cons_zero, List.getElem?_cons_succ] at hc0 hc1 hc2 hc3 hc4 ha0 ha1 ha2 ha3 ha4
  have hcell := pw_cell_below HBA.out HC.out
  have hfz := (HS.out _ HOA.out).1
  go_enter Try.func46, Try.ntmps46
  go_wp2
  exact HQ'.out _ _ ⟨rfl, ((HS.out _ HOA.out).2 true).1, (Fr.of_below0 HBA.out).trans ((HS.out _ HOA.out).2 true).2 (fun _ _ h => h)⟩

set_option maxHeartbeats 1000000 in
set_option maxRecDepth 100000 in
theorem ref_do_7 {B : Nat} {d : WD} {fv iv mv sv zv : Value} {us : List Value} {w : World} (h : OutW B d fv iv mv sv zv us w) (hF : d.Form) (i : Nat) (a b c : Int) (f : d.Fit 7 i a b c) :
    Calls Try.prog 46 #[.agg #[fv, iv, mv, sv, zv], .agg #[.int .i64 7, .int .i64 i, .int .i64 a, .int .i64 b, .int .i64 c]] w (DoPost B w fv iv mv sv zv us (d.states.getD i 0, d) 1) := by
  refine calls_hide fun Q HQ => ?_
  have hi : i < d.states.length := by have := f.at2 (by decide); omega
  have hj := hi
  obtain ⟨ad, cc, rfl, hcell0, hs0⟩ := h.atS hj
  generalize d.states.getD i 0 = x at *
  have HQ' := Lib.hid HQ
  have hl0 := hF.l0
  have hl3 := hF.l3
  have HC := Lib.hid hcell0
  have HS := Lib.hid hs0
  have hba := ((Below.refl w.heap.size w).alloc (Nat.le_refl _) (.cells #[fv, iv, mv, .slice (some ad) d.states.length cc, zv] TRW)).alloc (by simp) (.cells #[.int .i64 7, .int .i64 i, .int .i64 a, .int .i64 b, .int .i64 c] TRX)
  have hb1 := (Blk.new w TRW [fv, iv, mv, .slice (some ad) d.states.length cc, zv]).alloc (.cells #[.int .i64 7, .int .i64 i, .int .i64 a, .int .i64 b, .int .i64 c] TRX)
  have hb2 := Blk.new (w.alloc (.cells #[fv, iv, mv, .slice (some ad) d.states.length cc, zv] TRW)) TRX [.int .i64 7, .int .i64 i, .int .i64 a, .int .i64 b, .int .i64 c]
  rw [World.size_alloc] at hb2
  have HBA := Lib.hid hba
  have HBP := Lib.hid hb1
  have HBX := Lib.hid (show Blk ((w.alloc (.cells #[fv, iv, mv, .slice (some ad) d.states.length cc, zv] TRW)).alloc (.cells #[.int .i64 7, .int .i64 i, .int .i64 a, .int .i64 b, .int .i64 c] TRX)) (w.heap.size + 1) TRX _ from hb2)
  have HOA := Lib.hid (h.below hba)
  clear HQ h hcell0 hs0 hba hb1 hb2
  clear hF f
  have hc0 := HBP.out.cell 0
  have hc1 := HBP.out.cell 1
  have hc2 := HBP.out.cell 2
  have hc3 := HBP.out.cell 3
  have hc4 := HBP.out.cell 4
  have ha0 := HBX.out.cell 0
  have ha1 := HBX.out.cell 1
  have ha2 := HBX.out.cell 2
  have ha3 := HBX.out.cell 3
  have ha4 := HBX.out.cell 4
  simp only [List.getElem?_cons_zero, List.getElem?_cons_succ] at hc0 hc1 hc2 hc3 hc4 ha0 ha1 ha2 ha3 ha4
  have hcell := pw_cell_below HBA.out HC.out
  have hfz := (HS.out _ HOA.out).1
  go_enter Try.func46, Try.ntmps46
  go_wp2
  exact HQ'.out _ _ ⟨rfl, HOA.out, Fr.of_below0 HBA.out⟩

set_option maxHeartbeats 1000000 in
set_option maxRecDepth 100000 in
theorem ref_do_8 {B : Nat} {d : WD} {fv iv mv sv zv : Value} {us : List Value} {w : World} (h : OutW B d fv iv mv sv zv us w) (hF : d.Form) (i : Nat) (a b c : Int) (f : d.Fit 8 i a b c) :
    Calls Try.prog 46 #[.agg #[fv, iv, mv, sv, zv], .agg #[.int .i64 8, .int .i64 i, .int .i64 a, .int .i64 b, .int .i64 c]] w (DoPost B w fv iv mv sv zv us (0, { d with states := d.states.set i 1 }) 2) := by
  refine calls_hide fun Q HQ => ?_
  have hi : i < d.states.length := by have := f.at2 (by decide); omega
  have hj := hi
  obtain ⟨ad, cc, rfl, hcell0, hs0⟩ := h.atS hj
  generalize d.states.getD i 0 = x at *
  have HQ' := Lib.hid HQ
  have hl0 := hF.l0
  have hl3 := hF.l3
  have HC := Lib.hid hcell0
  have HS := Lib.hid hs0
  have hba := ((Below.refl w.heap.size w).alloc (Nat.le_refl _) (.cells #[fv, iv, mv, .slice (some ad) d.states.length cc, zv] TRW)).alloc (by simp) (.cells #[.int .i64 8, .int .i64 i, .int .i64 a, .int .i64 b, .int .i64 c] TRX)
  have hb1 := (Blk.new w TRW [fv, iv, mv, .slice (some ad) d.states.length cc, zv]).alloc (.cells #[.int .i64 8, .int .i64 i, .int .i64 a, .int .i64 b, .int .i64 c] TRX)
  have hb2 := Blk.new (w.alloc (.cells #[fv, iv, mv, .slice (some ad) d.states.length cc, zv] TRW)) TRX [.int .i64 8, .int .i64 i, .int .i64 a, .int .i64 b, .int .i64 c]
  rw [World.size_alloc] at hb2
  have HBA := Lib.hid hba
  have HBP := Lib.hid hb1
  have HBX := Lib.hid (show Blk ((w.alloc (.cells #[fv, iv, mv, .slice (some ad) d.states.length cc, zv] TRW)).alloc (.cells #[.int .i64 8, .int .i64 i, .int .i64 a, .int .i64 b, .int .i64 c] TRX)) (w.heap.size + 1) TRX _ from hb2)
  have HOA := Lib.hid (h.below hba)
  clear HQ h hcell0 hs0 hba hb1 hb2
  clear hF f
  have hc0 := HBP.out.cell 0
  have hc1 := HBP.out.cell 1
  have hc2 := HBP.out.cell 2
  have hc3 := HBP.out.cell 3
  have hc4 := HBP.out.cell 4
  have ha0 := HBX.out.cell 0
  have ha1 := HBX.out.cell 1
  have ha2 := HBX.out.cell 2
  have ha3 := HBX.out.cell 3
  have ha4 := HBX.out.cell 4
  simp only [List.getElem?_cons_zero, List.getElem?_cons_succ] at hc0 hc1 hc2 hc3 hc4 ha0 ha1 ha2 ha3 ha4
  have hcell := pw_cell_below HBA.out HC.out
  have hfz := (HS.out _ HOA.out).1
  go_enter Try.func46, Try.ntmps46
  go_wp2
  exact HQ'.out _ _ ⟨rfl, ((HS.out _ HOA.out).2 1).1, (Fr.of_below0 HBA.out).trans ((HS.out _ HOA.out).2 1).2 (fun _ _ h => h)⟩

set_option maxHeartbeats 1000000 in
set_option maxRecDepth 100000 in
theorem ref_do_9 {B : Nat} {d : WD} {fv iv mv sv zv : Value} {us : List Value} {w : World} (h : OutW B d fv iv mv sv zv us w) (hF : d.Form) (i : Nat) (a b c : Int) (f : d.Fit 9 i a b c) :
    Calls Try.prog 46 #[.agg #[fv, iv, mv, sv, zv], .agg #[.int .i64 9, .int .i64 i, .int .i64 a, .int .i64 b, .int .i64 c]] w (DoPost B w fv iv mv sv zv us (0, { d with states := d.states.set i 2 }) 2) := by
  refine calls_hide fun Q HQ => ?_
  have hi : i < d.states.length := by have := f.at2 (by decide); omega
  have hj := hi
  obtain ⟨ad, cc, rfl, hcell0, hs0⟩ := h.atS hj
  generalize d.states.getD i 0 = x at *
  have HQ' := Lib.hid HQ
  have hl0 := hF.l0
  have hl3 := hF.l3
  have HC := Lib.hid hcell0
  have HS := Lib.hid hs0
  have hba := ((Below.refl w.heap.size w).alloc (Nat.le_refl _) (.cells #[fv, iv, mv, .slice (some ad) d.states.length cc, zv] TRW)).alloc (by simp) (.cells #[.int .i64 9, .int .i64 i, .int .i64 a, .int .i64 b, .int .i64 c] TRX)
  have hb1 := (Blk.new w TRW [fv, iv, mv, .slice (some ad) d.states.length cc, zv]).alloc (.cells #[.int .i64 9, .int .i64 i, .int .i64 a, .int .i64 b, .int .i64 c] TRX)
  have hb2 := Blk.new (w.alloc (.cells #[fv, iv, mv, .slice (some ad) d.states.length cc, zv] TRW)) TRX [.int .i64 9, .int .i64 i, .int .i64 a, .int .i64 b, .int .i64 c]
  rw [World.size_alloc] at hb2
  have HBA := Lib.hid hba
  have HBP := Lib.hid hb1
  have HBX := Lib.hid (show Blk ((w.alloc (.cells #[fv, iv, mv, .slice (some ad) d.states.length cc, zv] TRW)).alloc (.cells #[.int .i64 9, .int .i64 i, .int .i64 a, .int .i64 b, .int .i64 c] TRX)) (w.heap.size + 1) TRX _ from hb2)
  have HOA := Lib.hid (h.below hba)
  clear HQ h hcell0 hs0 hba hb1 hb2
  clear hF f
  have hc0 := HBP.out.cell 0
  have hc1 := HBP.out.cell 1
  have hc2 := HBP.out.cell 2
  have hc3 := HBP.out.cell 3
  have hc4 := HBP.out.cell 4
  have ha0 := HBX.out.cell 0
  have ha1 := HBX.out.cell 1
  have ha2 := HBX.out.cell 2
  have ha3 := HBX.out.cell 3
  have ha4 := HBX.out.cell 4
  simp only [List.getElem?_cons_zero, List.getElem?_cons_succ] at hc0 hc1 hc2 hc3 hc4 ha0 ha1 ha2 ha3 ha4
  have hcell := pw_cell_below HBA.out HC.out
  have hfz := (HS.out _ HOA.out).1
  go_enter Try.func46, Try.ntmps46
  go_wp2
  exact HQ'.out _ _ ⟨rfl, ((HS.out _ HOA.out).2 2).1, (Fr.of_below0 HBA.out).trans ((HS.out _ HOA.out).2 2).2 (fun _ _ h => h)⟩

set_option maxHeartbeats 1000000 in
set_option maxRecDepth 100000 in
theorem ref_do_10 {B : Nat} {d : WD} {fv iv mv sv zv : Value} {us : List Value} {w : World} (h : OutW B d fv iv mv sv zv us w) (hF : d.Form) (i : Nat) (a b c : Int) (f : d.Fit 10 i a b c) :
    Calls Try.prog 46 #[.agg #[fv, iv, mv, sv, zv], .agg #[.int .i64 10, .int .i64 i, .int .i64 a, .int .i64 b, .int .i64 c]] w (DoPost B w fv iv mv sv zv us (bitI (d.frozen.getD i false), d) 1) := by
  refine calls_hide fun Q HQ => ?_
  have hi : i < d.states.length := by have := f.at2 (by decide); omega
  have hj : i < d.frozen.length := by rw [hF.e4]; exact hi
  obtain ⟨ad, cc, rfl, hcell0, hs0⟩ := h.atZ hj
  generalize d.frozen.getD i false = x at *
  have HQ' := Lib.hid HQ
  have hl0 := hF.l0
  have hl3 := hF.l3
  have HC := Lib.hid hcell0
  have HS := Lib.hid hs0
  have hba := ((Below.refl w.heap.size w).alloc (Nat.le_refl _) (.cells #[fv, iv, mv, sv, .slice (some ad) d.frozen.length cc] TRW)).alloc (by simp) (.cells #[.int .i64 10, .int .i64 i, .int .i64 a, .int .i64 b, .int .i64 c] TRX)
  have hb1 := (Blk.new w TRW [fv, iv, mv, sv, .slice (some ad) d.frozen.length cc]).alloc (.cells #[.int .i64 10, .int .i64 i, .int .i64 a, .int .i64 b, .int .i64 c] TRX)
  have hb2 := Blk.new (w.alloc (.cells #[fv, iv, mv, sv, .slice (some ad) d.frozen.length cc] TRW)) TRX [.int .i64 10, .int .i64 i, .int .i64 a, .int .i64 b, .int .i64 c]
  rw [World.size_alloc] at hb2
  have HBA := Lib.hid hba
  have HBP := Lib.hid hb1
  have HBX := Lib.hid (show Blk ((w.alloc (.cells #[fv, iv, mv, sv, .slice (some ad) d.frozen.length cc] TRW)).alloc (.cells #[.int .i64 10, .int .i64 i, .int .i64 a, .int .i64 b, .int .i64 c] TRX)) (w.heap.size + 1) TRX _ from hb2)
  have HOA := Lib.hid (h.below hba)
  clear HQ h hcell0 hs0 hba hb1 hb2
  have hjl : d.frozen.length ≤ 64 := by rw [hF.e4]; exact hl3
  clear hF f
  have hc0 := HBP.out.cell 0
  have hc1 := HBP.out.cell 1
  have hc2 := HBP.out.cell 2
  have hc3 := HBP.out.cell 3
  have hc4 := HBP.out.cell 4
  have ha0 := HBX.out.cell 0
  have ha1 := HBX.out.cell 1
  have ha2 := HBX.out.cell 2
  have ha3 := HBX.out.cell 3
  have ha4 := HBX.out.cell 4
  simp only [List.getElem?_cons_zero, List.getElem?_cons_succ] at hc0 hc1 hc2 hc3 hc4 ha0 ha1 ha2 ha3 ha4
  have hcell := pw_cell_below HBA.out HC.out
  have hfz := (HS.out _ HOA.out).1
  go_enter Try.func46, Try.ntmps46
  go_wp2_with fail
  refine (ref_bit _ _).mono ?_
  rintro e w1 ⟨rfl, rfl⟩
  go_wp2
  exact HQ'.out _ _ ⟨rfl, HOA.out, Fr.of_below0 HBA.out⟩

set_option maxHeartbeats 1000000 in
set_option maxRecDepth 100000 in
theorem ref_do_11 {B : Nat} {d : WD} {fv iv mv sv zv : Value} {us : List Value} {w : World} (h : OutW B d fv iv mv sv zv us w) (hF : d.Form) (i : Nat) (a b c : Int) (f : d.Fit 11 i a b c) :
    Calls Try.prog 46 #[.agg #[fv, iv, mv, sv, zv], .agg #[.int .i64 11, .int .i64 i, .int .i64 a, .int .i64 b, .int .i64 c]] w (DoPost B w fv iv mv sv zv us (0, { d with frozen := d.frozen.set i true }) 2) := by
  refine calls_hide fun Q HQ => ?_
  have hi : i < d.states.length := by have := f.at2 (by decide); omega
  have hj : i < d.frozen.length := by rw [hF.e4]; exact hi
  obtain ⟨ad, cc, rfl, hcell0, hs0⟩ := h.atZ hj
  generalize d.frozen.getD i false = x at *
  have HQ' := Lib.hid HQ
  have hl0 := hF.l0
  have hl3 := hF.l3
  have HC := Lib.hid hcell0
  have HS := Lib.hid hs0
  have hba := ((Below.refl w.heap.size w).alloc (Nat.le_refl _) (.cells #[fv, iv, mv, sv, .slice (some ad) d.frozen.length cc] TRW)).alloc (by simp) (.cells #[.int .i64 11, .int .i64 i, .int .i64 a, .int .i64 b, .int .i64 c] TRX)
  have hb1 := (Blk.new w TRW [fv, iv, mv, sv, .slice (some ad) d.frozen.length cc]).alloc (.cells #[.int .i64 11, .int .i64 i, .int .i64 a, .int .i64 b, .int .i64 c] TRX)
  have hb2 := Blk.new (w.alloc (.cells #[fv, iv, mv, sv, .slice (some ad) d.frozen.length cc] TRW)) TRX [.int .i64 11, .int .i64 i, .int .i64 a, .int .i64 b, .int .i64 c]
  rw [World.size_alloc] at hb2
  have HBA := Lib.hid hba
  have HBP := Lib.hid hb1
  have HBX := Lib.hid (show Blk ((w.alloc (.cells #[fv, iv, mv, sv, .slice (some ad) d.frozen.length cc] TRW)).alloc (.cells #[.int .i64 11, .int .i64 i, .int .i64 a, .int .i64 b, .int .i64 c] TRX)) (w.heap.size + 1) TRX _ from hb2)
  have HOA := Lib.hid (h.below hba)
  clear HQ h hcell0 hs0 hba hb1 hb2
  have hjl : d.frozen.length ≤ 64 := by rw [hF.e4]; exact hl3
  clear hF f
  have hc0 := HBP.out.cell 0
  have hc1 := HBP.out.cell 1
  have hc2 := HBP.out.cell 2
  have hc3 := HBP.out.cell 3
  have hc4 := HBP.out.cell 4
  have ha0 := HBX.out.cell 0
  have ha1 := HBX.out.cell 1
  have ha2 := HBX.out.cell 2
  have ha3 := HBX.out.cell 3
  have ha4 := HBX.out.cell 4
  simp only [List.getElem?_cons_zero, List.getElem?_cons_succ] at hc0 hc1 hc2 hc3 hc4 ha0 ha1 ha2 ha3 ha4
  have hcell := pw_cell_below HBA.out HC.out
  have hfz := (HS.out _ HOA.out).1
  go_enter Try.func46, Try.ntmps46
  go_wp2
  exact HQ'.out _ _ ⟨rfl, ((HS.out _ HOA.out).2 true).1, (Fr.of_below0 HBA.out).trans ((HS.out _ HOA.out).2 true).2 (fun _ _ h => h)⟩

end Go.Proofs.Ytphhdmopfmelbaa
