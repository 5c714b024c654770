/- Joined texts: Law12A Law12B Law12C Law12S Law12D. -/
import Derived.Test.YtphhdmopfmelbaaM6

/- larchlaw12: acts, world, ours. -/
namespace Go.Proofs.Ytphhdmopfmelbaa
open Go.RowKit Go.Proofs.YtphhdmopfmelbaaW.PrintWords Go.Proofs.YtphhdmopfmelbaaW.PrintLast
set_option linter.unusedVariables false
set_option linter.unusedSimpArgs false

theorem own_small {w : World} {B e n : Nat} {v : Value} {us : List Value} (h : w.ownsRow B e 1 v n us) : n ≤ 9223372036854775807 := by
  rcases h.2 with ⟨_, h0⟩ | ⟨g, cap, cur, _, _, _, hn, hc, _⟩
  · omega
  · simp only [maxLen] at hc; omega
/-- A row of the call's own as a row that is read. -/
theorem own_C {α : Type} {enc : α → Value} {h1 : ∀ x, (enc x).oneCell' = true} {w : World} {B e n : Nat} {v : Value} {xs : List α} (h : w.ownsRow B e 1 v n (xs.map enc)) : ∃ A c, v = .slice A xs.length c ∧ xs.length ≤ c ∧ (Kd.scalar enc h1).C w A xs.length xs := by
  have hn : xs.length = n := by have := h.1; simpa using this
  have hs := own_small h
  subst hn
  obtain ⟨A, c, e1, hr, hl⟩ := owns_slice h
  refine ⟨A, c, e1, hl, rfl, hs, fun hn => ?_⟩
  obtain ⟨ad, hA, hc⟩ := hr.2 hn
  refine ⟨ad, hA, fun j x hx => ⟨[enc x], rfl, rfl, fun i u hu => ?_⟩⟩
  cases i with
  | zero =>
    simp only [List.getElem?_cons_zero, Option.some.injEq] at hu
    subst hu
    simpa [Kd.scalar] using hc j (enc x) (by simp [hx])
  | succ i => simp at hu
/-- A world of one's own as a world that is read. -/
theorem OutW.reads {B : Nat} {d : WD} {fv iv mv sv zv : Value} {us : List Value} {w : World} (h : OutW B d fv iv mv sv zv us w) : ∃ v : WV, fv = .slice v.A0 d.fields.length v.c0 ∧ iv = .slice v.A1 d.infos.length v.c1 ∧ mv = .slice v.A2 d.marks.length v.c2 ∧ sv = .slice v.A3 d.states.length v.c3 ∧ zv = .slice v.A4 d.frozen.length v.c4 ∧ v.Reads w d := by
  obtain ⟨A0, c0, e0, r0, k0⟩ := owns_slice h.f
  obtain ⟨A1, c1, e1, k1, r1⟩ := own_C (h1 := fun _ => rfl) h.i
  obtain ⟨A2, c2, e2, k2, r2⟩ := own_C (h1 := fun _ => rfl) h.m
  obtain ⟨A3, c3, e3, k3, r3⟩ := own_C (h1 := fun _ => rfl) h.s
  obtain ⟨A4, c4, e4, k4, r4⟩ := own_C (h1 := fun _ => rfl) h.z
  refine ⟨⟨A0, c0, A1, c1, A2, c2, A3, c3, A4, c4⟩, e0, e1, e2, e3, e4, ⟨⟨rfl, own_small h.f, fun hn => ?_⟩, k0, r1, k1, r2, k2, r3, k3, r4, k4⟩⟩
  obtain ⟨ad, hA, hc⟩ := r0.2 hn
  refine ⟨ad, hA, fun j p hp => ?_⟩
  have hj := (List.getElem?_eq_some_iff.1 hp).1
  have hju : j < us.length := by rw [h.lb]; exact hj
  obtain ⟨A, c, e, k, r⟩ := own_C (h1 := fun _ => rfl) (h.inn j us[j] p (List.getElem?_eq_getElem hju) hp)
  refine ⟨[us[j]], rfl, ⟨A, c, by rw [e], k, r⟩, fun i u hu => ?_⟩
  cases i with
  | zero =>
    simp only [List.getElem?_cons_zero, Option.some.injEq] at hu
    subst hu
    have : ad.add (j * 1 + 0) = ad.add j := by rw [Nat.mul_one, Nat.add_zero]
    exact (congrArg w.cell? this).trans (hc j _ (List.getElem?_eq_getElem hju))
  | succ i => simp at hu

set_option maxHeartbeats 1000000 in
set_option maxRecDepth 100000 in
theorem law_world (w : World) (v : WV) (d : WD) (hv : v.Reads w d) (hl : d.fields.length ≤ 1000000000 ∧ d.infos.length * 8 ≤ 140737488351232 ∧ d.marks.length ≤ 140737488351232 ∧ d.states.length * 8 ≤ 140737488351232 ∧ d.frozen.length ≤ 140737488351232) (hr : ∀ r ∈ d.fields, r.length * 8 ≤ 140737488351232) :
    Calls Try.prog 18 #[v.val d] w fun e w' => ∃ v' : WV, e = .returned (v'.val d) ∧ v'.Reads w' d ∧ Below w.heap.size w w' := by
  refine calls_hide fun Q HQ => ?_
  have HQ' := Lib.hid HQ
  have hba := ((Below.refl w.heap.size w).alloc (Nat.le_refl _) (.cells (v.cells d).toArray TRW)).alloc (by simp) (.cells #[.slice none 0 0, .slice none 0 0, .slice none 0 0, .slice none 0 0, .slice none 0 0] TWD)
  have hb1 := (Blk.new w TRW (v.cells d)).alloc (.cells #[.slice none 0 0, .slice none 0 0, .slice none 0 0, .slice none 0 0, .slice none 0 0] TWD)
  have hb2 := Blk.new (w.alloc (.cells (v.cells d).toArray TRW)) TWD zero5
  rw [World.size_alloc] at hb2
  have HC := Lib.hid (ref_Copy _ v d (hv.below hba) hl hr)
  have HBA := Lib.hid hba
  have hc0 := hb1.cell 0
  have hc1 := hb1.cell 1
  have hc2 := hb1.cell 2
  have hc3 := hb1.cell 3
  have hc4 := hb1.cell 4
  simp only [List.getElem?_cons_zero, List.getElem?_cons_succ] at hc0 hc1 hc2 hc3 hc4
  have HB2 := Lib.hid (show Blk ((w.alloc (.cells (v.cells d).toArray TRW)).alloc (.cells #[.slice none 0 0, .slice none 0 0, .slice none 0 0, .slice none 0 0, .slice none 0 0] TWD)) (w.heap.size + 1) TWD zero5 from hb2)
  clear HQ hv hr hl hba hb1 hb2
  go_enter Try.func18, Try.ntmps18
  go_wp2_with fail
  generalize (w.alloc (.cells (v.cells d).toArray TRW)).alloc (.cells #[.slice none 0 0, .slice none 0 0, .slice none 0 0, .slice none 0 0, .slice none 0 0] TWD) = wA at *
  refine HC.out.mono ?_
  rintro e w1 ⟨fv, iv, mv, sv, zv, us, rfl, hout, hbel⟩
  obtain ⟨v', rfl, rfl, rfl, rfl, rfl, hrd⟩ := hout.reads
  have HO := Lib.hid hout
  have HB3 := Lib.hid ((Fr.of_below0 (S := fun _ => False) hbel).blk HB2.out id)
  have HBE := Lib.hid (HBA.out.trans (hbel.mono HBA.out.size))
  have HRD := Lib.hid hrd
  have HSZ := Lib.hid HBA.out.size
  clear hout hbel hrd HBA HB2 HC hc0 hc1 hc2 hc3 hc4
  have hb3 := HB3.out.alloc (.cells #[.slice v'.A0 d.fields.length v'.c0, .slice v'.A1 d.infos.length v'.c1, .slice v'.A2 d.marks.length v'.c2, .slice v'.A3 d.states.length v'.c3, .slice v'.A4 d.frozen.length v'.c4] TRW)
  have hr0 := hb3.cell 0
  have hr1 := hb3.cell 1
  have hr2 := hb3.cell 2
  have hr3 := hb3.cell 3
  have hr4 := hb3.cell 4
  have hf0 := hb3.free ⟨w.heap.size + 1, 0, none⟩ rfl
  have hf1 := hb3.free ⟨w.heap.size + 1, 1, none⟩ rfl
  have hf2 := hb3.free ⟨w.heap.size + 1, 2, none⟩ rfl
  have hf3 := hb3.free ⟨w.heap.size + 1, 3, none⟩ rfl
  have hf4 := hb3.free ⟨w.heap.size + 1, 4, none⟩ rfl
  simp only [List.getElem?_cons_zero, List.getElem?_cons_succ] at hr0 hr1 hr2 hr3 hr4
  have HBLK := Lib.hid (fun wz e => res_end hb3 (.slice v'.A0 d.fields.length v'.c0) (.slice v'.A1 d.infos.length v'.c1) (.slice v'.A2 d.marks.length v'.c2) (.slice v'.A3 d.states.length v'.c3) (.slice v'.A4 d.frozen.length v'.c4) wz e)
  have HEND := Lib.hid (show ∀ wz, Fr (w1.alloc (.cells #[.slice v'.A0 d.fields.length v'.c0, .slice v'.A1 d.infos.length v'.c1, .slice v'.A2 d.marks.length v'.c2, .slice v'.A3 d.states.length v'.c3, .slice v'.A4 d.frozen.length v'.c4] TRW)) wz (fun k => k = w.heap.size + 1) → v'.Reads wz d ∧ Below w.heap.size w wz from fun wz hf => by
    have h1 := HO.out.below ((Below.refl w1.heap.size w1).alloc (Nat.le_refl _) (.cells #[.slice v'.A0 d.fields.length v'.c0, .slice v'.A1 d.infos.length v'.c1, .slice v'.A2 d.marks.length v'.c2, .slice v'.A3 d.states.length v'.c3, .slice v'.A4 d.frozen.length v'.c4] TRW))
    have h2 := h1.other hf (fun k hk => ⟨TWD, _, hk ▸ hb3, by decide, by decide, by decide⟩)
    obtain ⟨v2, e0, e1, e2, e3, e4, hr⟩ := h2.reads
    obtain ⟨A0, c0, A1, c1, A2, c2, A3, c3, A4, c4⟩ := v2
    obtain ⟨A0', c0', A1', c1', A2', c2', A3', c3', A4', c4'⟩ := v'
    simp only [Value.slice.injEq, true_and] at e0 e1 e2 e3 e4
    obtain ⟨rfl, rfl⟩ := e0
    obtain ⟨rfl, rfl⟩ := e1
    obtain ⟨rfl, rfl⟩ := e2
    obtain ⟨rfl, rfl⟩ := e3
    obtain ⟨rfl, rfl⟩ := e4
    exact ⟨hr, (HBE.out.alloc HBE.out.size _).trans (hf.below (Nat.le_trans HBE.out.size (by simp)) (fun k hk => by rw [hk]; exact Nat.le_succ _))⟩)
  clear hb3
  go_wp2
  (try simp only [Exit.inBlock, Exit.then])
  refine bodyPost_end (results_cell_row rfl _ _ (w.heap.size + 1) TWD _ (0, 0) _ rfl (HBLK.out _ rfl).1 Try.underlying36 rfl wsize) rfl ?_
  exact HQ'.out _ _ ⟨v', rfl, HEND.out _ (HBLK.out _ rfl).2⟩

set_option maxHeartbeats 1000000 in
set_option maxRecDepth 100000 in
theorem law_ours (w : World) (v : WV) (d : WD) :
    Calls Try.prog 23 #[v.val d] w fun e w' => e = .returned (v.val d) ∧ Below w.heap.size w w' := by
  refine calls_hide fun Q HQ => ?_
  have HQ' := Lib.hid HQ
  have hba := ((Below.refl w.heap.size w).alloc (Nat.le_refl _) (.cells (v.cells d).toArray TWD)).alloc (by simp) (.cells #[.slice none 0 0, .slice none 0 0, .slice none 0 0, .slice none 0 0, .slice none 0 0] TRW)
  have hb1 := (Blk.new w TWD (v.cells d)).alloc (.cells #[.slice none 0 0, .slice none 0 0, .slice none 0 0, .slice none 0 0, .slice none 0 0] TRW)
  have hb2' := Blk.new (w.alloc (.cells (v.cells d).toArray TWD)) TRW zero5
  rw [World.size_alloc] at hb2'
  have hb2 : Blk ((w.alloc (.cells (v.cells d).toArray TWD)).alloc (.cells #[.slice none 0 0, .slice none 0 0, .slice none 0 0, .slice none 0 0, .slice none 0 0] TRW)) (w.heap.size + 1) TRW zero5 := hb2'
  have hc0 := hb1.cell 0
  have hc1 := hb1.cell 1
  have hc2 := hb1.cell 2
  have hc3 := hb1.cell 3
  have hc4 := hb1.cell 4
  have hr0 := hb2.cell 0
  have hr1 := hb2.cell 1
  have hr2 := hb2.cell 2
  have hr3 := hb2.cell 3
  have hr4 := hb2.cell 4
  have hf0 := hb2.free ⟨w.heap.size + 1, 0, none⟩ rfl
  have hf1 := hb2.free ⟨w.heap.size + 1, 1, none⟩ rfl
  have hf2 := hb2.free ⟨w.heap.size + 1, 2, none⟩ rfl
  have hf3 := hb2.free ⟨w.heap.size + 1, 3, none⟩ rfl
  have hf4 := hb2.free ⟨w.heap.size + 1, 4, none⟩ rfl
  simp only [List.getElem?_cons_zero, List.getElem?_cons_succ] at hc0 hc1 hc2 hc3 hc4 hr0 hr1 hr2 hr3 hr4
  have HBLK := Lib.hid (fun wz e => res_endR hb2 (.slice v.A0 d.fields.length v.c0) (.slice v.A1 d.infos.length v.c1) (.slice v.A2 d.marks.length v.c2) (.slice v.A3 d.states.length v.c3) (.slice v.A4 d.frozen.length v.c4) wz e)
  have HBA := Lib.hid hba
  clear HQ hba hb1 hb2 hb2'
  go_enter Try.func23, Try.ntmps23
  go_upto_region 1 with (fail)
  generalize (w.alloc (.cells (v.cells d).toArray TWD)).alloc (.cells #[.slice none 0 0, .slice none 0 0, .slice none 0 0, .slice none 0 0, .slice none 0 0] TRW) = wA at *
  go_wp2
  (try simp only [Exit.inBlock, Exit.then])
  refine bodyPost_end (results_cell_row rfl _ _ (w.heap.size + 1) TRW _ (0, 0) _ rfl (HBLK.out _ rfl).1 Try.underlying43 rfl wsizeR) rfl ?_
  exact HQ'.out _ _ ⟨rfl, HBA.out.trans ((HBLK.out _ rfl).2.below HBA.out.size (fun k hk => by rw [hk]; exact Nat.le_succ _))⟩

abbrev TAC : Nat := 65
theorem ainfo : (Try.prog.info? TAC).map (fun i => (i.zero, i.size, i.bytes)) = some (some (.agg #[.int .i64 0, .int .i64 0, .int .i64 0, .int .i64 0, .int .i64 0]), 5, 40) := by kernel_rfl
/-- A row of acts of the call's own, as it is read. -/
theorem own_acts {w : World} {B e n : Nat} {v : Value} {l : List ActD} (h : w.ownsRow B e 5 v n (l.flatMap ActD.cells)) : ∃ A c, v = .slice A l.length c ∧ l.length ≤ c ∧ ActsAt w A l := by
  have hfl : ∀ l : List ActD, (l.flatMap ActD.cells).length = l.length * 5 := fun l => by
    induction l with
    | nil => rfl
    | cons x l ih => simp only [List.flatMap_cons, List.length_append, ih, List.length_cons, List.length_nil]; omega
  have hn : l.length = n := by have := h.1; rw [hfl] at this; omega
  subst hn
  have hget : ∀ (l : List ActD) (j : Nat) x, l[j]? = some x → ∀ (i : Nat) u, x.cells[i]? = some u → (l.flatMap ActD.cells)[j * 5 + i]? = some u := fun l => by
    induction l with
    | nil => intro j x hx; simp at hx
    | cons y l ih =>
      intro j x hx i u hu
      cases j with
      | zero =>
        simp only [List.getElem?_cons_zero, Option.some.injEq] at hx
        subst hx
        have hi := (List.getElem?_eq_some_iff.1 hu).1
        rw [List.flatMap_cons, Nat.zero_mul, Nat.zero_add, List.getElem?_append_left hi]
        exact hu
      | succ j =>
        simp only [List.getElem?_cons_succ] at hx
        have hl : y.cells.length = 5 := rfl
        rw [List.flatMap_cons, List.getElem?_append_right (by rw [hl]; omega), hl, show (j + 1) * 5 + i - 5 = j * 5 + i by omega]
        exact ih j x hx i u hu
  by_cases hv : v = .slice none 0 0
  · subst hv
    have h0 : l.length = 0 := by
      rcases h.2 with ⟨_, h0⟩ | ⟨g, cap, cur, hv, _⟩
      · exact h0
      · simp at hv
    exact ⟨none, 0, by rw [h0], by omega, fun h => by omega⟩
  · rcases h.2 with ⟨hv', _⟩ | ⟨g, cap, cur, hv', hb, hh, hn, hc, hs, ht⟩
    · exact absurd hv' hv
    · refine ⟨some ⟨g, 0, none⟩, cap, hv', hn, fun hl => ⟨g, 0, rfl, fun j x hx i u hu => ?_⟩⟩
      rw [cell_of_row w g _ cur e (0, 0) hh]
      have h1 := hget l j x hx i u hu
      have h2 := (List.getElem?_eq_some_iff.1 h1).1
      rw [hfl] at h2
      rw [← ht, List.getElem?_take, if_pos h2] at h1
      simpa [Nat.zero_add] using h1

set_option maxHeartbeats 1000000 in
set_option maxRecDepth 100000 in
theorem law_acts (w : World) (A : Option Addr) (c : Nat) (l : List ActD) (ha : ActsAt w A l) (hl : l.length ≤ 1000000000) :
    Calls Try.prog 19 #[.slice A l.length c] w fun e w' => ∃ v, e = .returned v ∧ w'.ownsRow w.heap.size TAC 5 v l.length (l.flatMap ActD.cells) ∧ Below w.heap.size w w' := by
  refine calls_hide fun Q HQ => ?_
  have HQ' := Lib.hid HQ
  have HA := Lib.hid ha
  clear HQ ha
  go_enter Try.func19, Try.ntmps19
  go_wp2
  go_loopw [4, 3] (fun k v wr => ∃ j : Nat, j ≤ l.length ∧ k = .int .i64 j ∧ Below w.heap.size w wr ∧ wr.ownsRow w.heap.size TAC 5 v (l.take j).length ((l.take j).flatMap ActD.cells)) (fun k _ _ => l.length - (intOf k).toNat)
  case atStart => exact ⟨0, Nat.zero_le _, rfl, Below.refl _ _, World.ownsRow_nil _ _ _ _⟩
  case round =>
    obtain ⟨j, hj, rfl, hb, ho⟩ := hrel
    have HB := Lib.hid hb
    have HO := Lib.hid ho
    have HVF := Lib.hid (show ∃ A c, u3 = .slice A (l.take j).length c from own_slice ho)
    clear hb ho
    by_cases hlt : j < l.length
    · obtain ⟨ab, ao, hAd, ha0, ha1, ha2, ha3, ha4⟩ := (HA.out.below HB.out).at_ hlt
      subst hAd
      have HT := Lib.hid (take_one' l j hlt)
      have HLJ := Lib.hid (show (l.take j).length = j by simp; omega)
      generalize l[j] = x at *
      go_wp2
      refine start_ (n := 30) (S := fun _ => True) (ds := []) #[false, false, false, false, false, false, false, false, false, false, false, false, false, false, false, false, false, false, false, false, false, false, false, false, false, false, false, false, false, false] (by kernel_rfl) rfl rfl trivial (fun _ => ?_)
      have HBQ := Lib.hid (show ∀ w', Below wr.drew.heap.size wr.drew w' → Below wr.heap.size wr w' from fun _ h => ⟨h.os, h.tape, h.output, h.size, h.block⟩)
      have HSZ := Lib.hid (show wr.drew.heap.size = wr.heap.size from rfl)
      have HA0 := Lib.hid (fun w' (hb : Below wr.drew.heap.size wr.drew w') => pw_cell_below (w := wr.drew) hb ha0)
      have HA1 := Lib.hid (fun w' (hb : Below wr.drew.heap.size wr.drew w') => pw_cell_below (w := wr.drew) hb ha1)
      have HA2 := Lib.hid (fun w' (hb : Below wr.drew.heap.size wr.drew w') => pw_cell_below (w := wr.drew) hb ha2)
      have HA3 := Lib.hid (fun w' (hb : Below wr.drew.heap.size wr.drew w') => pw_cell_below (w := wr.drew) hb ha3)
      have HA4 := Lib.hid (fun w' (hb : Below wr.drew.heap.size wr.drew w') => pw_cell_below (w := wr.drew) hb ha4)
      clear ha0 ha1 ha2 ha3 ha4
      generalize wr.drew = wq at *
      refine grow_region (md := .any) (w0 := wq) (B := [0, 0, 0, 6, 14, 30, 0, 0, 192, 448, 960, 0, 0, 6144, 14336, 30720, 0, 0, 196608, 458752, 983040, 0, 0, 6291456, 14680064, 31457280, 67108862, 134217726, 268435455, 536870911]) [(0, 11), (1, 12), (2, 13), (3, 14), (4, 15), (5, 16), (6, 17), (7, 18), (8, 19), (9, 20), (10, 21), (11, 22), (12, 23), (13, 24), (14, 25), (15, 26), (16, 27), (17, 28), (18, 29), (19, 30), (20, 31), (21, 32), (22, 33), (23, 34), (24, 35), (25, 36), (26, 37), (27, 38)] [28, 29] (fun i => [].contains i) (fun i => 0) (fun i V w' => match i with
          | 0 => V 0 = u3
          | 1 => V 1 = .slice (some ⟨ab, ao, none⟩) l.length c
          | 2 => V 2 = .int .i64 j
          | 3 => V 3 = .pointer (some ⟨ab, ao + j * 5, none⟩)
          | 4 => V 4 = .pointer (some ⟨ab, ao + j * 5, none⟩)
          | 5 => V 5 = .int .i64 x.k
          | 6 => V 6 = .slice (some ⟨ab, ao, none⟩) l.length c
          | 7 => V 7 = .int .i64 j
          | 8 => V 8 = .pointer (some ⟨ab, ao + j * 5, none⟩)
          | 9 => V 9 = .pointer (some ⟨ab, ao + j * 5 + 1, none⟩)
          | 10 => V 10 = .int .i64 x.at_
          | 11 => V 11 = .slice (some ⟨ab, ao, none⟩) l.length c
          | 12 => V 12 = .int .i64 j
          | 13 => V 13 = .pointer (some ⟨ab, ao + j * 5, none⟩)
          | 14 => V 14 = .pointer (some ⟨ab, ao + j * 5 + 2, none⟩)
          | 15 => V 15 = .int .i64 x.a
          | 16 => V 16 = .slice (some ⟨ab, ao, none⟩) l.length c
          | 17 => V 17 = .int .i64 j
          | 18 => V 18 = .pointer (some ⟨ab, ao + j * 5, none⟩)
          | 19 => V 19 = .pointer (some ⟨ab, ao + j * 5 + 3, none⟩)
          | 20 => V 20 = .int .i64 x.b
          | 21 => V 21 = .slice (some ⟨ab, ao, none⟩) l.length c
          | 22 => V 22 = .int .i64 j
          | 23 => V 23 = .pointer (some ⟨ab, ao + j * 5, none⟩)
          | 24 => V 24 = .pointer (some ⟨ab, ao + j * 5 + 4, none⟩)
          | 25 => V 25 = .int .i64 x.c
          | 26 => V 26 = .agg #[.int .i64 x.k, .int .i64 x.at_, .int .i64 x.a, .int .i64 x.b, .int .i64 x.c]
          | 27 => ∃ s, V 27 = .slice (some ⟨s, 0, none⟩) 1 1 ∧ Blk w' s TAC x.cells
          | _ => True) rfl (by kernel_rfl) (by kernel_rfl) (by kernel_rfl) (by kernel_rfl) (by kernel_rfl) (by kernel_rfl) (by kernel_rfl) (by kernel_rfl) ?_ ?_ ?_ ?_
      · intro e he V V' w' h hp
        simp only [List.mem_cons, List.not_mem_nil, or_false] at he
        rcases he with rfl | rfl | rfl | rfl | rfl | rfl | rfl | rfl | rfl | rfl | rfl | rfl | rfl | rfl | rfl | rfl | rfl | rfl | rfl | rfl | rfl | rfl | rfl | rfl | rfl | rfl | rfl | rfl
        · simp only [← h 0 (.inl rfl)]; exact hp
        · simp only [← h 1 (.inl rfl)]; exact hp
        · simp only [← h 2 (.inl rfl)]; exact hp
        · simp only [← h 3 (.inl rfl)]; exact hp
        · simp only [← h 4 (.inl rfl)]; exact hp
        · simp only [← h 5 (.inl rfl)]; exact hp
        · simp only [← h 6 (.inl rfl)]; exact hp
        · simp only [← h 7 (.inl rfl)]; exact hp
        · simp only [← h 8 (.inl rfl)]; exact hp
        · simp only [← h 9 (.inl rfl)]; exact hp
        · simp only [← h 10 (.inl rfl)]; exact hp
        · simp only [← h 11 (.inl rfl)]; exact hp
        · simp only [← h 12 (.inl rfl)]; exact hp
        · simp only [← h 13 (.inl rfl)]; exact hp
        · simp only [← h 14 (.inl rfl)]; exact hp
        · simp only [← h 15 (.inl rfl)]; exact hp
        · simp only [← h 16 (.inl rfl)]; exact hp
        · simp only [← h 17 (.inl rfl)]; exact hp
        · simp only [← h 18 (.inl rfl)]; exact hp
        · simp only [← h 19 (.inl rfl)]; exact hp
        · simp only [← h 20 (.inl rfl)]; exact hp
        · simp only [← h 21 (.inl rfl)]; exact hp
        · simp only [← h 22 (.inl rfl)]; exact hp
        · simp only [← h 23 (.inl rfl)]; exact hp
        · simp only [← h 24 (.inl rfl)]; exact hp
        · simp only [← h 25 (.inl rfl)]; exact hp
        · simp only [← h 26 (.inl rfl)]; exact hp
        · simp only [← h 27 (.inl rfl)]; exact hp
      · intro e he V w1 w2 hp hb
        simp only [List.mem_cons, List.not_mem_nil, or_false] at he
        rcases he with rfl | rfl | rfl | rfl | rfl | rfl | rfl | rfl | rfl | rfl | rfl | rfl | rfl | rfl | rfl | rfl | rfl | rfl | rfl | rfl | rfl | rfl | rfl | rfl | rfl | rfl | rfl | rfl
        · exact hp
        · exact hp
        · exact hp
        · exact hp
        · exact hp
        · exact hp
        · exact hp
        · exact hp
        · exact hp
        · exact hp
        · exact hp
        · exact hp
        · exact hp
        · exact hp
        · exact hp
        · exact hp
        · exact hp
        · exact hp
        · exact hp
        · exact hp
        · exact hp
        · exact hp
        · exact hp
        · exact hp
        · exact hp
        · exact hp
        · exact hp
        · exact let ⟨s, h1, h2⟩ := hp; ⟨s, h1, (Fr.of_below0 (S := fun _ => False) hb).blk h2 id⟩
      · intro e he
        simp only [List.mem_cons, List.not_mem_nil, or_false] at he
        rcases he with rfl | rfl | rfl | rfl | rfl | rfl | rfl | rfl | rfl | rfl | rfl | rfl | rfl | rfl | rfl | rfl | rfl | rfl | rfl | rfl | rfl | rfl | rfl | rfl | rfl | rfl | rfl | rfl
        · intro V a w' hd ho hB
          have e3 : a.tmps[3]? = some (u3) := (ho 3 (by decide)).trans rfl
          refine ⟨_, rfl, rfl, fun K hK => ?_⟩
          clear hd ho
          refine value_ (w1 := w') (v := u3) rfl rfl ?_ (hK.out _ _ (Below.refl _ _) (setV_self _ _ _) (fun h => absurd h (by decide)))
          obtain ⟨Av, cv, xv⟩ := HVF.out
          rw [xv] at e3 ⊢
          go_simp
        · intro V a w' hd ho hB
          have e0 : a.tmps[0]? = some (.slice (some ⟨ab, ao, none⟩) l.length c) := (ho 0 (by decide)).trans rfl
          refine ⟨_, rfl, rfl, fun K hK => ?_⟩
          clear hd ho
          refine value_ (w1 := w') (v := .slice (some ⟨ab, ao, none⟩) l.length c) rfl rfl ?_ (hK.out _ _ (Below.refl _ _) (setV_self _ _ _) (fun h => absurd h (by decide)))
          go_simp
        · intro V a w' hd ho hB
          have e4 : a.tmps[4]? = some (.int .i64 j) := (ho 4 (by decide)).trans rfl
          refine ⟨_, rfl, rfl, fun K hK => ?_⟩
          clear hd ho
          refine value_ (w1 := w') (v := .int .i64 j) rfl rfl ?_ (hK.out _ _ (Below.refl _ _) (setV_self _ _ _) (fun h => absurd h (by decide)))
          go_simp
        · intro V a w' hd ho hB
          obtain ⟨e12, p12, o12⟩ := hd (1, 12) (by decide) (by kernel_rfl)
          rw [show V 1 = .slice (some ⟨ab, ao, none⟩) l.length c from p12] at e12
          obtain ⟨e13, p13, o13⟩ := hd (2, 13) (by decide) (by kernel_rfl)
          rw [show V 2 = .int .i64 j from p13] at e13
          refine ⟨_, rfl, rfl, fun K hK => ?_⟩
          clear hd ho
          refine value_ (w1 := w') (v := .pointer (some ⟨ab, ao + j * 5, none⟩)) rfl rfl ?_ (hK.out _ _ (Below.refl _ _) (setV_self _ _ _) (fun h => absurd h (by decide)))
          go_simp
        · intro V a w' hd ho hB
          obtain ⟨e14, p14, o14⟩ := hd (3, 14) (by decide) (by kernel_rfl)
          rw [show V 3 = .pointer (some ⟨ab, ao + j * 5, none⟩) from p14] at e14
          refine ⟨_, rfl, rfl, fun K hK => ?_⟩
          clear hd ho
          refine value_ (w1 := w') (v := .pointer (some ⟨ab, ao + j * 5, none⟩)) rfl rfl ?_ (hK.out _ _ (Below.refl _ _) (setV_self _ _ _) (fun h => absurd h (by decide)))
          go_simp
        · intro V a w' hd ho hB
          obtain ⟨e15, p15, o15⟩ := hd (4, 15) (by decide) (by kernel_rfl)
          rw [show V 4 = .pointer (some ⟨ab, ao + j * 5, none⟩) from p15] at e15
          have hc := HA0.out w' hB
          refine ⟨_, rfl, rfl, fun K hK => ?_⟩
          clear hd ho
          refine value_ (w1 := w') (v := .int .i64 x.k) rfl rfl ?_ (hK.out _ _ (Below.refl _ _) (setV_self _ _ _) (fun h => absurd h (by decide)))
          go_simp
        · intro V a w' hd ho hB
          have e0 : a.tmps[0]? = some (.slice (some ⟨ab, ao, none⟩) l.length c) := (ho 0 (by decide)).trans rfl
          refine ⟨_, rfl, rfl, fun K hK => ?_⟩
          clear hd ho
          refine value_ (w1 := w') (v := .slice (some ⟨ab, ao, none⟩) l.length c) rfl rfl ?_ (hK.out _ _ (Below.refl _ _) (setV_self _ _ _) (fun h => absurd h (by decide)))
          go_simp
        · intro V a w' hd ho hB
          have e4 : a.tmps[4]? = some (.int .i64 j) := (ho 4 (by decide)).trans rfl
          refine ⟨_, rfl, rfl, fun K hK => ?_⟩
          clear hd ho
          refine value_ (w1 := w') (v := .int .i64 j) rfl rfl ?_ (hK.out _ _ (Below.refl _ _) (setV_self _ _ _) (fun h => absurd h (by decide)))
          go_simp
        · intro V a w' hd ho hB
          obtain ⟨e17, p17, o17⟩ := hd (6, 17) (by decide) (by kernel_rfl)
          rw [show V 6 = .slice (some ⟨ab, ao, none⟩) l.length c from p17] at e17
          obtain ⟨e18, p18, o18⟩ := hd (7, 18) (by decide) (by kernel_rfl)
          rw [show V 7 = .int .i64 j from p18] at e18
          refine ⟨_, rfl, rfl, fun K hK => ?_⟩
          clear hd ho
          refine value_ (w1 := w') (v := .pointer (some ⟨ab, ao + j * 5, none⟩)) rfl rfl ?_ (hK.out _ _ (Below.refl _ _) (setV_self _ _ _) (fun h => absurd h (by decide)))
          go_simp
        · intro V a w' hd ho hB
          obtain ⟨e19, p19, o19⟩ := hd (8, 19) (by decide) (by kernel_rfl)
          rw [show V 8 = .pointer (some ⟨ab, ao + j * 5, none⟩) from p19] at e19
          refine ⟨_, rfl, rfl, fun K hK => ?_⟩
          clear hd ho
          refine value_ (w1 := w') (v := .pointer (some ⟨ab, ao + j * 5 + 1, none⟩)) rfl rfl ?_ (hK.out _ _ (Below.refl _ _) (setV_self _ _ _) (fun h => absurd h (by decide)))
          go_simp
        · intro V a w' hd ho hB
          obtain ⟨e20, p20, o20⟩ := hd (9, 20) (by decide) (by kernel_rfl)
          rw [show V 9 = .pointer (some ⟨ab, ao + j * 5 + 1, none⟩) from p20] at e20
          have hc := HA1.out w' hB
          refine ⟨_, rfl, rfl, fun K hK => ?_⟩
          clear hd ho
          refine value_ (w1 := w') (v := .int .i64 x.at_) rfl rfl ?_ (hK.out _ _ (Below.refl _ _) (setV_self _ _ _) (fun h => absurd h (by decide)))
          go_simp
        · intro V a w' hd ho hB
          have e0 : a.tmps[0]? = some (.slice (some ⟨ab, ao, none⟩) l.length c) := (ho 0 (by decide)).trans rfl
          refine ⟨_, rfl, rfl, fun K hK => ?_⟩
          clear hd ho
          refine value_ (w1 := w') (v := .slice (some ⟨ab, ao, none⟩) l.length c) rfl rfl ?_ (hK.out _ _ (Below.refl _ _) (setV_self _ _ _) (fun h => absurd h (by decide)))
          go_simp
        · intro V a w' hd ho hB
          have e4 : a.tmps[4]? = some (.int .i64 j) := (ho 4 (by decide)).trans rfl
          refine ⟨_, rfl, rfl, fun K hK => ?_⟩
          clear hd ho
          refine value_ (w1 := w') (v := .int .i64 j) rfl rfl ?_ (hK.out _ _ (Below.refl _ _) (setV_self _ _ _) (fun h => absurd h (by decide)))
          go_simp
        · intro V a w' hd ho hB
          obtain ⟨e22, p22, o22⟩ := hd (11, 22) (by decide) (by kernel_rfl)
          rw [show V 11 = .slice (some ⟨ab, ao, none⟩) l.length c from p22] at e22
          obtain ⟨e23, p23, o23⟩ := hd (12, 23) (by decide) (by kernel_rfl)
          rw [show V 12 = .int .i64 j from p23] at e23
          refine ⟨_, rfl, rfl, fun K hK => ?_⟩
          clear hd ho
          refine value_ (w1 := w') (v := .pointer (some ⟨ab, ao + j * 5, none⟩)) rfl rfl ?_ (hK.out _ _ (Below.refl _ _) (setV_self _ _ _) (fun h => absurd h (by decide)))
          go_simp
        · intro V a w' hd ho hB
          obtain ⟨e24, p24, o24⟩ := hd (13, 24) (by decide) (by kernel_rfl)
          rw [show V 13 = .pointer (some ⟨ab, ao + j * 5, none⟩) from p24] at e24
          refine ⟨_, rfl, rfl, fun K hK => ?_⟩
          clear hd ho
          refine value_ (w1 := w') (v := .pointer (some ⟨ab, ao + j * 5 + 2, none⟩)) rfl rfl ?_ (hK.out _ _ (Below.refl _ _) (setV_self _ _ _) (fun h => absurd h (by decide)))
          go_simp
        · intro V a w' hd ho hB
          obtain ⟨e25, p25, o25⟩ := hd (14, 25) (by decide) (by kernel_rfl)
          rw [show V 14 = .pointer (some ⟨ab, ao + j * 5 + 2, none⟩) from p25] at e25
          have hc := HA2.out w' hB
          refine ⟨_, rfl, rfl, fun K hK => ?_⟩
          clear hd ho
          refine value_ (w1 := w') (v := .int .i64 x.a) rfl rfl ?_ (hK.out _ _ (Below.refl _ _) (setV_self _ _ _) (fun h => absurd h (by decide)))
          go_simp
        · intro V a w' hd ho hB
          have e0 : a.tmps[0]? = some (.slice (some ⟨ab, ao, none⟩) l.length c) := (ho 0 (by decide)).trans rfl
          refine ⟨_, rfl, rfl, fun K hK => ?_⟩
          clear hd ho
          refine value_ (w1 := w') (v := .slice (some ⟨ab, ao, none⟩) l.length c) rfl rfl ?_ (hK.out _ _ (Below.refl _ _) (setV_self _ _ _) (fun h => absurd h (by decide)))
          go_simp
        · intro V a w' hd ho hB
          have e4 : a.tmps[4]? = some (.int .i64 j) := (ho 4 (by decide)).trans rfl
          refine ⟨_, rfl, rfl, fun K hK => ?_⟩
          clear hd ho
          refine value_ (w1 := w') (v := .int .i64 j) rfl rfl ?_ (hK.out _ _ (Below.refl _ _) (setV_self _ _ _) (fun h => absurd h (by decide)))
          go_simp
        · intro V a w' hd ho hB
          obtain ⟨e27, p27, o27⟩ := hd (16, 27) (by decide) (by kernel_rfl)
          rw [show V 16 = .slice (some ⟨ab, ao, none⟩) l.length c from p27] at e27
          obtain ⟨e28, p28, o28⟩ := hd (17, 28) (by decide) (by kernel_rfl)
          rw [show V 17 = .int .i64 j from p28] at e28
          refine ⟨_, rfl, rfl, fun K hK => ?_⟩
          clear hd ho
          refine value_ (w1 := w') (v := .pointer (some ⟨ab, ao + j * 5, none⟩)) rfl rfl ?_ (hK.out _ _ (Below.refl _ _) (setV_self _ _ _) (fun h => absurd h (by decide)))
          go_simp
        · intro V a w' hd ho hB
          obtain ⟨e29, p29, o29⟩ := hd (18, 29) (by decide) (by kernel_rfl)
          rw [show V 18 = .pointer (some ⟨ab, ao + j * 5, none⟩) from p29] at e29
          refine ⟨_, rfl, rfl, fun K hK => ?_⟩
          clear hd ho
          refine value_ (w1 := w') (v := .pointer (some ⟨ab, ao + j * 5 + 3, none⟩)) rfl rfl ?_ (hK.out _ _ (Below.refl _ _) (setV_self _ _ _) (fun h => absurd h (by decide)))
          go_simp
        · intro V a w' hd ho hB
          obtain ⟨e30, p30, o30⟩ := hd (19, 30) (by decide) (by kernel_rfl)
          rw [show V 19 = .pointer (some ⟨ab, ao + j * 5 + 3, none⟩) from p30] at e30
          have hc := HA3.out w' hB
          refine ⟨_, rfl, rfl, fun K hK => ?_⟩
          clear hd ho
          refine value_ (w1 := w') (v := .int .i64 x.b) rfl rfl ?_ (hK.out _ _ (Below.refl _ _) (setV_self _ _ _) (fun h => absurd h (by decide)))
          go_simp
        · intro V a w' hd ho hB
          have e0 : a.tmps[0]? = some (.slice (some ⟨ab, ao, none⟩) l.length c) := (ho 0 (by decide)).trans rfl
          refine ⟨_, rfl, rfl, fun K hK => ?_⟩
          clear hd ho
          refine value_ (w1 := w') (v := .slice (some ⟨ab, ao, none⟩) l.length c) rfl rfl ?_ (hK.out _ _ (Below.refl _ _) (setV_self _ _ _) (fun h => absurd h (by decide)))
          go_simp
        · intro V a w' hd ho hB
          have e4 : a.tmps[4]? = some (.int .i64 j) := (ho 4 (by decide)).trans rfl
          refine ⟨_, rfl, rfl, fun K hK => ?_⟩
          clear hd ho
          refine value_ (w1 := w') (v := .int .i64 j) rfl rfl ?_ (hK.out _ _ (Below.refl _ _) (setV_self _ _ _) (fun h => absurd h (by decide)))
          go_simp
        · intro V a w' hd ho hB
          obtain ⟨e32, p32, o32⟩ := hd (21, 32) (by decide) (by kernel_rfl)
          rw [show V 21 = .slice (some ⟨ab, ao, none⟩) l.length c from p32] at e32
          obtain ⟨e33, p33, o33⟩ := hd (22, 33) (by decide) (by kernel_rfl)
          rw [show V 22 = .int .i64 j from p33] at e33
          refine ⟨_, rfl, rfl, fun K hK => ?_⟩
          clear hd ho
          refine value_ (w1 := w') (v := .pointer (some ⟨ab, ao + j * 5, none⟩)) rfl rfl ?_ (hK.out _ _ (Below.refl _ _) (setV_self _ _ _) (fun h => absurd h (by decide)))
          go_simp
        · intro V a w' hd ho hB
          obtain ⟨e34, p34, o34⟩ := hd (23, 34) (by decide) (by kernel_rfl)
          rw [show V 23 = .pointer (some ⟨ab, ao + j * 5, none⟩) from p34] at e34
          refine ⟨_, rfl, rfl, fun K hK => ?_⟩
          clear hd ho
          refine value_ (w1 := w') (v := .pointer (some ⟨ab, ao + j * 5 + 4, none⟩)) rfl rfl ?_ (hK.out _ _ (Below.refl _ _) (setV_self _ _ _) (fun h => absurd h (by decide)))
          go_simp
        · intro V a w' hd ho hB
          obtain ⟨e35, p35, o35⟩ := hd (24, 35) (by decide) (by kernel_rfl)
          rw [show V 24 = .pointer (some ⟨ab, ao + j * 5 + 4, none⟩) from p35] at e35
          have hc := HA4.out w' hB
          refine ⟨_, rfl, rfl, fun K hK => ?_⟩
          clear hd ho
          refine value_ (w1 := w') (v := .int .i64 x.c) rfl rfl ?_ (hK.out _ _ (Below.refl _ _) (setV_self _ _ _) (fun h => absurd h (by decide)))
          go_simp
        · intro V a w' hd ho hB
          obtain ⟨e16, p16, o16⟩ := hd (5, 16) (by decide) (by kernel_rfl)
          rw [show V 5 = .int .i64 x.k from p16] at e16
          obtain ⟨e21, p21, o21⟩ := hd (10, 21) (by decide) (by kernel_rfl)
          rw [show V 10 = .int .i64 x.at_ from p21] at e21
          obtain ⟨e26, p26, o26⟩ := hd (15, 26) (by decide) (by kernel_rfl)
          rw [show V 15 = .int .i64 x.a from p26] at e26
          obtain ⟨e31, p31, o31⟩ := hd (20, 31) (by decide) (by kernel_rfl)
          rw [show V 20 = .int .i64 x.b from p31] at e31
          obtain ⟨e36, p36, o36⟩ := hd (25, 36) (by decide) (by kernel_rfl)
          rw [show V 25 = .int .i64 x.c from p36] at e36
          refine ⟨_, rfl, rfl, fun K hK => ?_⟩
          clear hd ho
          refine value_ (w1 := w') (v := .agg #[.int .i64 x.k, .int .i64 x.at_, .int .i64 x.a, .int .i64 x.b, .int .i64 x.c]) rfl rfl ?_ (hK.out _ _ (Below.refl _ _) (setV_self _ _ _) (fun h => absurd h (by decide)))
          go_simp
        · intro V a w' hd ho hB
          obtain ⟨e37, p37, o37⟩ := hd (26, 37) (by decide) (by kernel_rfl)
          rw [show V 26 = .agg #[.int .i64 x.k, .int .i64 x.at_, .int .i64 x.a, .int .i64 x.b, .int .i64 x.c] from p37] at e37
          refine ⟨_, rfl, rfl, fun K hK => ?_⟩
          refine value_ (w1 := w'.alloc (.cells #[.int .i64 x.k, .int .i64 x.at_, .int .i64 x.a, .int .i64 x.b, .int .i64 x.c] TAC)) (v := .slice (some ⟨w'.heap.size, 0, none⟩) 1 1) rfl rfl ?_ (hK.out _ _ ((Below.refl _ _).alloc (Nat.le_refl _) _) ⟨w'.heap.size, setV_self _ _ _, Blk.new w' TAC x.cells⟩ (fun h => absurd h (by decide)))
          clear hd ho hK
          go_simp
      · intro V a w' hfr hB hP hap hlt
        have P0 := hP (0, 11) (by decide)
        have P1 := hP (1, 12) (by decide)
        have P2 := hP (2, 13) (by decide)
        have P3 := hP (3, 14) (by decide)
        have P4 := hP (4, 15) (by decide)
        have P5 := hP (5, 16) (by decide)
        have P6 := hP (6, 17) (by decide)
        have P7 := hP (7, 18) (by decide)
        have P8 := hP (8, 19) (by decide)
        have P9 := hP (9, 20) (by decide)
        have P10 := hP (10, 21) (by decide)
        have P11 := hP (11, 22) (by decide)
        have P12 := hP (12, 23) (by decide)
        have P13 := hP (13, 24) (by decide)
        have P14 := hP (14, 25) (by decide)
        have P15 := hP (15, 26) (by decide)
        have P16 := hP (16, 27) (by decide)
        have P17 := hP (17, 28) (by decide)
        have P18 := hP (18, 29) (by decide)
        have P19 := hP (19, 30) (by decide)
        have P20 := hP (20, 31) (by decide)
        have P21 := hP (21, 32) (by decide)
        have P22 := hP (22, 33) (by decide)
        have P23 := hP (23, 34) (by decide)
        have P24 := hP (24, 35) (by decide)
        have P25 := hP (25, 36) (by decide)
        have P26 := hP (26, 37) (by decide)
        have P27 := hP (27, 38) (by decide)
        clear hP
        obtain ⟨s, hs, hsb⟩ := P27
        have hbr := HBQ.out _ hB
        have ho := pw_own_below HO.out hbr
        obtain ⟨i0, hi, hz0, hz1, hz2⟩ := info_parts ainfo
        obtain ⟨v1, w1, hrun, hown, hgrow, _, _⟩ := run_append_own_at (P := Try.prog) w' w.heap.size 51 51 TAC i0 _ 5 40 Try.underlying51 hi hz0 hz1 hz2 rfl (by decide) u3 (l.take j).length _ ho ⟨s, 0, none⟩ 1 1 x.cells rfl (fun q u hq => by rw [Go.Proofs.YtphhdmopfmelbaaW.PrintWords.add_plain]; exact (hsb.cell q).trans hq) (by intro u hu; simp only [ActD.cells, List.mem_cons, List.not_mem_nil, or_false] at hu; rcases hu with rfl | rfl | rfl | rfl | rfl <;> rfl) (by simp only [maxLen]; have := HLJ.out; omega) (by have := HLJ.out; omega) (Nat.le_trans HB.out.size hbr.size)
        have HN := Lib.hid (show w1.ownsRow w.heap.size TAC 5 v1 (l.take (j + 1)).length ((l.take (j + 1)).flatMap ActD.cells) by rw [← HT.out, List.length_append, List.flatMap_append]; simpa using hown)
        have HBN := Lib.hid (pw_below_grown (HB.out.trans (hbr.mono HB.out.size)) _ (Nat.le_trans HB.out.size hbr.size) hgrow (fun k hk => own_base ho k hk))
        obtain ⟨A9, c9, x9⟩ := own_slice hown
        subst hfr
        simp only [vrows, List.map_cons, List.map_nil, putSel, if_true, Act.put, List.setIfInBounds_toArray, List.set_cons_zero, List.set_cons_succ]
        refine seq_value v1 rfl rfl rfl (append_exec rfl (eval_of (by exact congrArg some P0)) (eval_of (by exact congrArg some hs)) hrun) ?_
        simp only [Act.put, List.setIfInBounds_toArray, List.set_cons_zero, List.set_cons_succ]
        refine seq_value (w1 := w1) v1 rfl rfl rfl ?_ ?_
        · clear hrun hown hgrow ho; rw [x9]; go_simp
        simp only [Act.put, List.setIfInBounds_toArray, List.set_cons_zero, List.set_cons_succ]
        clear hrun hown hgrow ho hbr hap x9 hs hsb hB P0 P1 P2 P3 P4 P5 P6 P7 P8 P9 P10 P11 P12 P13 P14 P15 P16 P17 P18 P19 P20 P21 P22 P23 P24 P25 P26 HB HO HT HBQ HSZ HA0 HA1 HA2 HA3 HA4 HLJ HVF
        refine seq_nil ?_
        go_wp2
        go_roundw
        case rel => exact ⟨j + 1, by omega, by go_num, HBN.out, HN.out⟩
        case measure => simp [intOf]; omega
    · have hje : j = l.length := by omega
      subst hje
      have ho := HO.out
      rw [List.take_length] at ho
      go_wp2
      exact HQ'.out _ _ ⟨_, rfl, ho, HB.out⟩
end Go.Proofs.Ytphhdmopfmelbaa

/- larchlaw12: less. Written by p_less.py. -/
namespace Go.Proofs.Ytphhdmopfmelbaa
open Go.RowKit Go.Proofs.YtphhdmopfmelbaaW.PrintWords Go.Proofs.YtphhdmopfmelbaaW.PrintLast
set_option linter.unusedVariables false
set_option linter.unusedSimpArgs false

abbrev TCA : Nat := 46
def lessD (d : WD) : WD := ⟨(d.fields.take 70).map (·.take 70), if d.fields.length > 70 then d.infos.take 70 else d.infos, if d.fields.length > 70 then d.marks.take 70 else d.marks, d.states.take 70, d.frozen.take 70⟩
abbrev caseC (v : WV) (d : WD) (A : Option Addr) (c n : Nat) (N M : Int) : List Value := [.slice v.A0 d.fields.length v.c0, .slice v.A1 d.infos.length v.c1, .slice v.A2 d.marks.length v.c2, .slice v.A3 d.states.length v.c3, .slice v.A4 d.frozen.length v.c4, .slice A n c, .int .i64 N, .int .i64 M]
abbrev caseV (v : WV) (d : WD) (A : Option Addr) (c : Nat) (l : List ActD) (N M : Int) : Value := .agg #[.slice v.A0 d.fields.length v.c0, .slice v.A1 d.infos.length v.c1, .slice v.A2 d.marks.length v.c2, .slice v.A3 d.states.length v.c3, .slice v.A4 d.frozen.length v.c4, .slice A l.length c, .int .i64 N, .int .i64 M]
abbrev zero8 : List Value := [.slice none 0 0, .slice none 0 0, .slice none 0 0, .slice none 0 0, .slice none 0 0, .slice none 0 0, .int .i64 0, .int .i64 0]
/-- While the rows of fields are cut. -/
structure LessAt (wo w0 : World) (v : WV) (d : WD) (cs : List Value) (j : Nat) (fv : Value) (us : List Value) (w : World) : Prop where
  below : Below w0.heap.size w0 w
  par : Blk w w0.heap.size TCA cs
  res : Blk w (w0.heap.size + 1) TCA zero8
  box : Blk w (w0.heap.size + 1 + 1) TRW (v.cells d)
  f : w.ownsRow w0.heap.size TRI 1 fv j us
  inn : ∀ (i : Nat) (u : Value), us[i]? = some u → ∃ (r : List Int) (A : Option Addr) (c : Nat), d.fields[i]? = some r ∧ u = .slice A (r.take 70).length c ∧ (r.take 70).length ≤ c ∧ KInt.C wo A (r.take 70).length (r.take 70)
  old : Below wo.heap.size wo w
  lo : wo.heap.size ≤ w0.heap.size
theorem LessAt.more {wo w0 : World} {v : WV} {d : WD} {cs : List Value} {j : Nat} {fv : Value} {us : List Value} {w w' : World} (h : LessAt wo w0 v d cs j fv us w) (hb : Below w.heap.size w w') : LessAt wo w0 v d cs j fv us w' :=
  let k {b T : Nat} {xs : List Value} (hx : Blk w b T xs) : Blk w' b T xs := (Fr.of_below0 (S := fun _ => False) hb).blk hx id
  ⟨h.below.trans (hb.mono h.below.size), k h.par, k h.res, k h.box, pw_own_below h.f hb, h.inn, h.old.trans (hb.mono h.old.size), h.lo⟩
theorem C_take {w : World} {A : Option Addr} {n : Nat} {xs : List Int} (h : KInt.C w A n xs) (k : Nat) : KInt.C w A (xs.take k).length (xs.take k) := by
  refine ⟨rfl, by have := h.1; have := h.2.1; have := List.length_take_le k xs; have := List.length_take_le' k xs; omega, fun hn => ?_⟩
  obtain ⟨ad, hA, hc⟩ := h.2.2 (by have := h.1; have := List.length_take_le' k xs; omega)
  exact ⟨ad, hA, fun j p hp => hc j p (by rw [List.getElem?_take] at hp; split at hp; exact hp; cases hp)⟩
theorem CB_take {w : World} {A : Option Addr} {n : Nat} {xs : List Bool} (h : Kd.bool.C w A n xs) (k : Nat) : Kd.bool.C w A (xs.take k).length (xs.take k) := by
  refine ⟨rfl, by have := h.1; have := h.2.1; have := List.length_take_le' k xs; omega, fun hn => ?_⟩
  obtain ⟨ad, hA, hc⟩ := h.2.2 (by have := h.1; have := List.length_take_le' k xs; omega)
  exact ⟨ad, hA, fun j p hp => hc j p (by rw [List.getElem?_take] at hp; split at hp; exact hp; cases hp)⟩
theorem less_round {wo w0 : World} {v : WV} {d : WD} {cs : List Value} {j : Nat} {fv v1 : Value} {us : List Value} {w wz w1 : World} (h : LessAt wo w0 v d cs j fv us w) {row : List Int} (hrow : d.fields[j]? = some row) {A : Option Addr} {c m : Nat} (hm : m = (row.take 70).length) (hc : row.length ≤ c) (hC : KInt.C wo A row.length row)
    (hb : Below w.heap.size w wz) (hg : wz.grownBy w1 fv.ownBlock) (ho : w1.ownsRow w0.heap.size TRI 1 v1 (j + 1) (us ++ [.slice A m c]))   : LessAt wo w0 v d cs (j + 1) v1 (us ++ [.slice A m c]) w1 := by
  subst hm
  have hz := h.more hb
  have hf := Fr.of_grown hg
  have hne : ∀ {k T ys}, Blk wz k T ys → T ≠ TRI → ¬ some k = fv.ownBlock := fun hx hT e2 => by
    obtain ⟨c, hc⟩ := owns_typed hz.f _ e2.symm
    exact hT ((show Blk wz _ TRI c from hc).inj hx).1.symm
  refine ⟨hz.below.trans (hf.below hz.below.size (fun k hk => (World.ownsRow.lt hz.f k hk.symm).1)), hf.blk hz.par (hne hz.par (by decide)), hf.blk hz.res (hne hz.res (by decide)), hf.blk hz.box (hne hz.box (by decide)), ho, fun i u hu => ?_, hz.old.trans (hf.below hz.old.size (fun k hk => Nat.le_trans h.lo (World.ownsRow.lt hz.f k hk.symm).1)), h.lo⟩
  have hlus : us.length = j := by have := h.f.1; omega
  rcases get_append_one hu with hu | ⟨rfl, rfl⟩
  · exact h.inn i u hu
  · exact ⟨row, A, c, by rw [hlus]; exact hrow, rfl, by have := List.length_take_le' 70 row; omega, C_take hC 70⟩

theorem less_reads {wo w0 : World} {v : WV} {d : WD} {cs : List Value} {j : Nat} {fv : Value} {us : List Value} {w : World} (h : LessAt wo w0 v d cs j fv us w) (hj : j = (d.fields.take 70).length) :
    ∃ A0 c0, fv = .slice A0 j c0 ∧ j ≤ c0 ∧ ∀ w', Below w.heap.size w w' ∨ (∀ k, fv.ownBlock = some k → w'.heap[k]? = w.heap[k]?) ∧ Below wo.heap.size wo w' → KRow.C w' A0 j ((d.fields.take 70).map (·.take 70)) := by
  obtain ⟨A0, c0, e, hr, hk⟩ := owns_slice h.f
  have hs := own_small h.f
  have hlus : us.length = j := by have := h.f.1; omega
  refine ⟨A0, c0, e, hk, fun w' hw => ⟨by simp [hj], hs, fun hn => ?_⟩⟩
  have hb0 : Below wo.heap.size wo w' := by
    rcases hw with hw | hw
    · exact h.old.trans (hw.mono h.old.size)
    · exact hw.2
  have hr' : Row1 w' A0 j us := by
    rcases hw with hw | hw
    · exact hr.below hw
    · refine ⟨hr.1, fun hn => ?_⟩
      obtain ⟨ad, hA, hc⟩ := hr.2 hn
      refine ⟨ad, hA, fun q u hu => ?_⟩
      have hblk : fv.ownBlock = some ad.block := by
        rcases h.f.2 with ⟨h1, h2⟩ | ⟨g, cap, cur, h1, _⟩
        · omega
        · rw [e, hA] at h1
          simp only [Value.slice.injEq, Option.some.injEq] at h1
          rw [e, hA, h1.1]; rfl
      have hcell := hc q u hu
      have hbk : (ad.add q).block = ad.block := by unfold Addr.add; split <;> rfl
      exact (World.cell?_of_block (by rw [hbk]; exact hw.1 _ hblk)).trans hcell
  obtain ⟨ad, hA, hc⟩ := hr'.2 hn
  refine ⟨ad, hA, fun q p hp => ?_⟩
  rw [List.getElem?_map] at hp
  obtain ⟨r, hr1, rfl⟩ := Option.map_eq_some_iff.1 hp
  have hql : q < us.length := by
    have := (List.getElem?_eq_some_iff.1 hr1).1
    rw [hlus, hj]; exact this
  have hu := List.getElem?_eq_getElem hql
  obtain ⟨r2, A, c, h1, h2, h3, h4⟩ := h.inn q us[q] hu
  have hrr : r2 = r := by
    rw [List.getElem?_take] at hr1
    split at hr1
    · rw [h1] at hr1; exact Option.some.inj hr1
    · cases hr1
  subst hrr
  refine ⟨[us[q]], rfl, ⟨A, c, by rw [h2], h3, Kd.C_below h4 hb0⟩, fun i u hu2 => ?_⟩
  cases i with
  | zero =>
    simp only [List.getElem?_cons_zero, Option.some.injEq] at hu2
    subst hu2
    have : ad.add (q * 1 + 0) = ad.add q := by rw [Nat.mul_one, Nat.add_zero]
    exact (congrArg w'.cell? this).trans (hc q _ hu)
  | succ i => simp at hu2
theorem cut_len (n : Nat) (m : Int) (h : m = (if 70 < (n : Int) then 70 else (n : Int))) : m.toNat = min 70 n ∧ 0 ≤ m ∧ m ≤ n := by rw [h]; split <;> omega
theorem res_endC {w1 : World} {g : Nat} {T : Nat} {z : List Value} (hz : z.length = 8) (hb : Blk w1 g T z) (a b c d e f n m : Value) (wz : World)
    (h : wz = (((((((w1.setCell ⟨g, 0, none⟩ a).setCell ⟨g, 1, none⟩ b).setCell ⟨g, 2, none⟩ c).setCell ⟨g, 3, none⟩ d).setCell ⟨g, 4, none⟩ e).setCell ⟨g, 5, none⟩ f).setCell ⟨g, 6, none⟩ n).setCell ⟨g, 7, none⟩ m) :
    Blk wz g T [a, b, c, d, e, f, n, m] ∧ Fr w1 wz (fun k => k = g) := by
  subst h
  match z, hz with
  | [_, _, _, _, _, _, _, _], _ =>
    exact ⟨(((((((hb.set 0 a).set 1 b).set 2 c).set 3 d).set 4 e).set 5 f).set 6 n).set 7 m,
      (((((((((Fr.refl w1 (fun k => k = g)).setCell ⟨g, 0, none⟩ a (fun _ => rfl)).setCell ⟨g, 1, none⟩ b (fun _ => rfl)).setCell ⟨g, 2, none⟩ c (fun _ => rfl)).setCell ⟨g, 3, none⟩ d (fun _ => rfl)).setCell ⟨g, 4, none⟩ e (fun _ => rfl)).setCell ⟨g, 5, none⟩ f (fun _ => rfl)).setCell ⟨g, 6, none⟩ n (fun _ => rfl)).setCell ⟨g, 7, none⟩ m (fun _ => rfl))⟩
theorem res_end5 {w1 : World} {g : Nat} {T : Nat} {a b c d e f n m : Value} (hb : Blk w1 g T [a, b, c, d, e, f, n, m]) (a' b' c' d' e' : Value) (wz : World)
    (h : wz = ((((w1.setCell ⟨g, 0, none⟩ a').setCell ⟨g, 1, none⟩ b').setCell ⟨g, 2, none⟩ c').setCell ⟨g, 3, none⟩ d').setCell ⟨g, 4, none⟩ e') :
    Blk wz g T [a', b', c', d', e', f, n, m] ∧ Fr w1 wz (fun k => k = g) := by
  subst h
  exact ⟨((((hb.set 0 a').set 1 b').set 2 c').set 3 d').set 4 e',
    (((((Fr.refl w1 (fun k => k = g)).setCell ⟨g, 0, none⟩ a' (fun _ => rfl)).setCell ⟨g, 1, none⟩ b' (fun _ => rfl)).setCell ⟨g, 2, none⟩ c' (fun _ => rfl)).setCell ⟨g, 3, none⟩ d' (fun _ => rfl)).setCell ⟨g, 4, none⟩ e' (fun _ => rfl)⟩

theorem less_last {w1 : World} {pb rb : Nat} {p0 p1 p2 p3 p4 f n m : Value} (hp : Blk w1 pb TCA [p0, p1, p2, p3, p4, f, n, m]) (hr : Blk w1 rb TCA zero8) (hne : rb ≠ pb) (a b c d e : Value) (wz : World)
    (h : wz = ((((((((((((w1.setCell ⟨pb, 0, none⟩ a).setCell ⟨pb, 1, none⟩ b).setCell ⟨pb, 2, none⟩ c).setCell ⟨pb, 3, none⟩ d).setCell ⟨pb, 4, none⟩ e).setCell ⟨rb, 0, none⟩ a).setCell ⟨rb, 1, none⟩ b).setCell ⟨rb, 2, none⟩ c).setCell ⟨rb, 3, none⟩ d).setCell ⟨rb, 4, none⟩ e).setCell ⟨rb, 5, none⟩ f).setCell ⟨rb, 6, none⟩ n).setCell ⟨rb, 7, none⟩ m) :
    Blk wz rb TCA [a, b, c, d, e, f, n, m] ∧ Fr w1 wz (fun k => k = pb ∨ k = rb) := by
  obtain ⟨h1, h2⟩ := res_end5 hp a b c d e _ rfl
  obtain ⟨h3, h4⟩ := res_endC rfl (h2.blk hr hne) a b c d e f n m wz h
  exact ⟨h3, (h2.mono (fun _ _ => .inl)).trans (h4.mono (fun _ _ => .inr)) (fun _ _ => id)⟩
theorem less_keep {wo w0 : World} {v : WV} {d : WD} {cs : List Value} {j : Nat} {fv : Value} {us : List Value} {wr wz : World} (h : LessAt wo w0 v d cs j fv us wr) (hf : Fr wr wz (fun k => k = w0.heap.size + 1 + 1 ∨ k = w0.heap.size ∨ k = w0.heap.size + 1)) :
    (∀ k, fv.ownBlock = some k → wz.heap[k]? = wr.heap[k]?) ∧ Below w0.heap.size w0 wz := by
  refine ⟨fun k hk => ?_, h.below.trans (hf.below h.below.size (fun k hk => by omega))⟩
  obtain ⟨c, hc⟩ := owns_typed h.f k hk
  have hn : ∀ {T ys}, T ≠ TRI → ¬ Blk wr k T ys := fun hT hb => hT ((show Blk wr k TRI c from hc).inj hb).1.symm
  refine hf.block k hc.lt (fun hs => ?_)
  rcases hs with rfl | rfl | rfl
  · exact hn (by decide) h.box
  · exact hn (by decide) h.par
  · exact hn (by decide) h.res
theorem less_post {wo w : World} {v : WV} {d : WD} {A : Option Addr} {c : Nat} {l' : List ActD} {N M : Int} {cs us : List Value} {A0' : Option Addr} {c0' j : Nat} {wr wz : World} (hv : v.Reads wo d) (h : LessAt wo w v d cs j (.slice A0' j c0') us wr) (hj : j = (d.fields.take 70).length) (hlc0 : j ≤ c0')
    (hC : ∀ w', Below wr.heap.size wr w' ∨ (∀ k, (Value.slice A0' j c0').ownBlock = some k → w'.heap[k]? = wr.heap[k]?) ∧ Below wo.heap.size wo w' → KRow.C w' A0' j ((d.fields.take 70).map (·.take 70)))
    (hf : Fr wr wz (fun k => k = w.heap.size + 1 + 1 ∨ k = w.heap.size ∨ k = w.heap.size + 1)) {n1 n2 m3 m4 : Nat} (h1 : n1 = (lessD d).infos.length) (h2 : n2 = (lessD d).marks.length) (h3 : m3 = min 70 d.states.length) (h4 : m4 = min 70 d.frozen.length) :
    ∃ v' : WV, Ending.returned (.agg #[.slice A0' j c0', .slice v.A1 n1 v.c1, .slice v.A2 n2 v.c2, .slice v.A3 m3 v.c3, .slice v.A4 m4 v.c4, .slice A l'.length c, .int .i64 N, .int .i64 M]) = .returned (caseV v' (lessD d) A c l' N M) ∧ (∀ w'', Below wo.heap.size wo w'' → (∀ k, w.heap.size ≤ k → k < wz.heap.size → w''.heap[k]? = wz.heap[k]?) → v'.Reads w'' (lessD d)) ∧ Below w.heap.size w wz := by
  obtain ⟨hk, hb⟩ := less_keep h hf
  have e0 : (lessD d).fields.length = j := by simp [lessD, hj]
  have e3 : (lessD d).states.length = m3 := by simp [lessD, h3]
  have e4 : (lessD d).frozen.length = m4 := by simp [lessD, h4]
  refine ⟨⟨A0', c0', v.A1, v.c1, v.A2, v.c2, v.A3, v.c3, v.A4, v.c4⟩, by simp only [caseV, e0, e3, e4, h1, h2], fun w'' hb2 hk2 => ?_, hb⟩
  have hr := hv.below hb2
  have hk3 : ∀ k, (Value.slice A0' j c0').ownBlock = some k → w''.heap[k]? = wr.heap[k]? := fun k hk0 => by
    have hlt := World.ownsRow.lt h.f k hk0
    rw [hk2 k hlt.1 (Nat.lt_of_lt_of_le hlt.2 hf.size)]
    exact hk k hk0
  refine ⟨?_, by rw [e0]; exact hlc0, ?_, ?_, ?_, ?_, C_take hr.h3 70, by have := hv.k3; have := List.length_take_le' 70 d.states; show (d.states.take 70).length ≤ v.c3; omega, CB_take hr.h4 70, by have := hv.k4; have := List.length_take_le' 70 d.frozen; show (d.frozen.take 70).length ≤ v.c4; omega⟩
  · show KRow.C w'' A0' (lessD d).fields.length (lessD d).fields
    rw [e0]
    exact hC w'' (.inr ⟨hk3, hb2⟩)
  · show KInt.C w'' v.A1 (lessD d).infos.length (lessD d).infos
    unfold lessD
    split
    · exact C_take hr.h1 70
    · exact hr.h1
  · show (lessD d).infos.length ≤ v.c1
    have := hv.k1
    unfold lessD
    split
    · have := List.length_take_le' 70 d.infos; simp only; omega
    · exact this
  · show Kd.bool.C w'' v.A2 (lessD d).marks.length (lessD d).marks
    unfold lessD
    split
    · exact CB_take hr.h2 70
    · exact hr.h2
  · show (lessD d).marks.length ≤ v.c2
    have := hv.k2
    unfold lessD
    split
    · have := List.length_take_le' 70 d.marks; simp only; omega
    · exact this
theorem csize : (Try.prog.info? TCA).map (·.size) = some 8 := by kernel_rfl

set_option maxHeartbeats 4000000 in
set_option maxRecDepth 100000 in
theorem law_less (wo w : World) (hold : Below wo.heap.size wo w) (v : WV) (d : WD) (hv : v.Reads wo d) (A : Option Addr) (c : Nat) (l : List ActD) (hlc : l.length ≤ c) (N M : Int)
    (hl : d.fields.length ≤ 1000000000000000 ∧ d.infos.length ≤ 1000000000000000 ∧ d.marks.length ≤ 1000000000000000 ∧ d.states.length ≤ 1000000000000000 ∧ d.frozen.length ≤ 1000000000000000 ∧ l.length ≤ 1000000000000000) (hr : ∀ r ∈ d.fields, r.length ≤ 1000000000000000) :
    Calls Try.prog 16 #[caseV v d A c l N M] w fun e w' => ∃ v' : WV, e = .returned (caseV v' (lessD d) A c (l.take 1100) N M) ∧ (∀ w'', Below wo.heap.size wo w'' → (∀ k, w.heap.size ≤ k → k < w'.heap.size → w''.heap[k]? = w'.heap[k]?) → v'.Reads w'' (lessD d)) ∧ Below w.heap.size w w' := by
  refine calls_hide fun Q HQ => ?_
  have HQ' := Lib.hid HQ
  have HV := Lib.hid hv
  have HOLD := Lib.hid hold
  have HR := Lib.hid hr
  have hk0 := hv.k0
  have hk1 := hv.k1
  have hk2 := hv.k2
  have hk3 := hv.k3
  have hk4 := hv.k4
  obtain ⟨l0, l1, l2, l3, l4, l5⟩ := hl
  have hcut : (if 1100 < (l.length : Int) then 1100 else (l.length : Int)).toNat = (l.take 1100).length := by simp only [List.length_take]; split <;> omega
  have HCUT := Lib.hid hcut
  clear HQ hv hr hold hcut
  go_enter Try.func16, Try.ntmps16
  go_upto_region 2 with (fail)
  rw [HCUT.out]
  generalize (if 1100 < (l.length : Int) then 1100 else (l.length : Int)) = m12 at *
  have hl6 : (l.take 1100).length ≤ 1100 := by simp; omega
  clear HCUT hlc
  generalize l.take 1100 = l' at *
  have hba := (((Below.refl w.heap.size w).alloc (Nat.le_refl _) (.cells (caseC v d A c l'.length N M).toArray TCA)).alloc (by simp) (.cells #[.slice none 0 0, .slice none 0 0, .slice none 0 0, .slice none 0 0, .slice none 0 0, .slice none 0 0, .int .i64 0, .int .i64 0] TCA)).alloc (by simp; omega) (.cells (v.cells d).toArray TRW)
  have hb1 := ((Blk.new w TCA (caseC v d A c l'.length N M)).alloc (.cells #[.slice none 0 0, .slice none 0 0, .slice none 0 0, .slice none 0 0, .slice none 0 0, .slice none 0 0, .int .i64 0, .int .i64 0] TCA)).alloc (.cells (v.cells d).toArray TRW)
  have hb2 := (Blk.new (w.alloc (.cells (caseC v d A c l'.length N M).toArray TCA)) TCA zero8).alloc (.cells (v.cells d).toArray TRW)
  have hb3 := Blk.new ((w.alloc (.cells (caseC v d A c l'.length N M).toArray TCA)).alloc (.cells zero8.toArray TCA)) TRW (v.cells d)
  simp only [World.size_alloc] at hb2 hb3
  have HAT0 := Lib.hid (show LessAt wo w v d (caseC v d A c l'.length N M) 0 (.slice none 0 0) [] (((w.alloc (.cells (caseC v d A c l'.length N M).toArray TCA)).alloc (.cells #[.slice none 0 0, .slice none 0 0, .slice none 0 0, .slice none 0 0, .slice none 0 0, .slice none 0 0, .int .i64 0, .int .i64 0] TCA)).alloc (.cells (v.cells d).toArray TRW)) from
    ⟨hba, hb1, hb2, hb3, World.ownsRow_nil _ _ _ _, fun i u h => by simp at h, HOLD.out.trans (hba.mono HOLD.out.size), HOLD.out.size⟩)
  clear hba hb1 hb2 hb3
  go_wp2
  generalize ((w.alloc (.cells (caseC v d A c l'.length N M).toArray TCA)).alloc (.cells #[.slice none 0 0, .slice none 0 0, .slice none 0 0, .slice none 0 0, .slice none 0 0, .slice none 0 0, .int .i64 0, .int .i64 0] TCA)).alloc (.cells (v.cells d).toArray TRW) = wA at *
  go_loopw [5, 4] (fun k fv wr => ∃ j : Nat, j ≤ d.fields.length ∧ j ≤ 70 ∧ k = .int .i64 j ∧ ∃ us, LessAt wo w v d (caseC v d A c l'.length N M) j fv us wr) (fun k _ _ => d.fields.length - (intOf k).toNat)
  case atStart => exact ⟨0, Nat.zero_le _, by omega, rfl, _, HAT0.out⟩
  case round =>
    clear HAT0
    obtain ⟨j, hj, hj70, rfl, us, hat⟩ := hrel
    have HAT2 := Lib.hid hat
    have hp0 : wr.cell? ⟨w.heap.size + 1 + 1, 0, none⟩ = some (.slice v.A0 d.fields.length v.c0) := hat.box.cell 0
    clear hat
    by_cases hlt : j < d.fields.length ∧ j < 70
    · obtain ⟨hlt, hlt70⟩ := hlt
      obtain ⟨ad, hA, A', c', hr0, hrc, hrow⟩ := row_at HV.out.h0 hlt
      have hrl := HR.out _ (List.getElem_mem hlt)
      obtain ⟨pb2, hpb2⟩ : ∃ pb2, pb2 = w.heap.size + 1 + 1 := ⟨_, rfl⟩
      have HR0 := Lib.hid (fun w' (hb : Below wr.drew.heap.size wr.drew w') => pw_cell_below (w := wr.drew) hb (pw_cell_below HAT2.out.old hr0))
      rw [← hpb2] at hp0 ⊢
      have HP0 := Lib.hid (fun w' (hb : Below wr.drew.heap.size wr.drew w') => pw_cell_below (w := wr.drew) hb hp0)
      have HVF := Lib.hid (owns_slice HAT2.out.f)
      obtain ⟨m7, hm7⟩ : ∃ m7 : Int, m7 = (if 70 < (d.fields[j].length : Int) then 70 else (d.fields[j].length : Int)) := ⟨_, rfl⟩
      have hm7t : m7.toNat = (d.fields[j].take 70).length := by rw [hm7, List.length_take]; split <;> omega
      have hm70 : 0 ≤ m7 := by rw [hm7]; split <;> omega
      have hm7c : m7 ≤ (c' : Int) := by rw [hm7]; split <;> omega
      have HFIN := Lib.hid (fun wz w1 v1 => less_round (wz := wz) (w1 := w1) (v1 := v1) HAT2.out (List.getElem?_eq_getElem hlt) hm7t hrc hrow)
      generalize d.fields[j] = row at *
      have HM7 := Lib.hid hm7
      have HAT := Lib.hid HAT2.out
      have HPB := Lib.hid hpb2
      obtain ⟨A0, c0, A1, c1, A2, c2, A3, c3, A4, c4⟩ := v
      simp only at hA hp0
      subst hA
      clear hr0 hrow hm7 hm7t hpb2 HAT2
      go_wp2

      refine start_ (n := 17) (S := fun _ => True) (ds := []) #[false, false, false, false, false, false, false, false, false, false, false, false, false, false, false, false, false] (by kernel_rfl) rfl rfl trivial (fun _ => ?_)
      have HBQ := Lib.hid (show ∀ w', Below wr.drew.heap.size wr.drew w' → Below wr.heap.size wr w' from fun _ h => ⟨h.os, h.tape, h.output, h.size, h.block⟩)
      generalize wr.drew = wq at *
      refine grow_region (md := .any) (w0 := wq) (B := [0, 0, 2, 0, 14, 30, 0, 64, 0, 448, 960, 1984, 4032, 8190, 16382, 32767, 65535]) [(0, 28), (1, 29), (2, 30), (3, 31), (4, 32), (5, 33), (6, 34), (7, 35), (8, 36), (9, 37), (10, 38), (11, 39), (12, 40), (13, 41), (14, 42)] [15, 16] (fun i => [].contains i) (fun i => 0) (fun i V w' => match i with
          | 0 => V 0 = u4
          | 1 => V 1 = .pointer (some ⟨pb2, 0, none⟩)
          | 2 => V 2 = .slice (some ad) d.fields.length c0
          | 3 => V 3 = .int .i64 j
          | 4 => V 4 = .pointer (some (ad.add j))
          | 5 => V 5 = .slice A' row.length c'
          | 6 => V 6 = .pointer (some ⟨pb2, 0, none⟩)
          | 7 => V 7 = .slice (some ad) d.fields.length c0
          | 8 => V 8 = .int .i64 j
          | 9 => V 9 = .pointer (some (ad.add j))
          | 10 => V 10 = .slice A' row.length c'
          | 11 => V 11 = .int .i64 row.length
          | 12 => V 12 = .int .i64 m7
          | 13 => V 13 = .slice A' m7.toNat c'
          | 14 => ∃ s, V 14 = .slice (some ⟨s, 0, none⟩) 1 1 ∧ Blk w' s TRI [.slice A' m7.toNat c']
          | _ => True) rfl (by kernel_rfl) (by kernel_rfl) (by kernel_rfl) (by kernel_rfl) (by kernel_rfl) (by kernel_rfl) (by kernel_rfl) (by kernel_rfl) ?_ ?_ ?_ ?_
      · intro e he V V' w' h hp
        simp only [List.mem_cons, List.not_mem_nil, or_false] at he
        rcases he with rfl | rfl | rfl | rfl | rfl | rfl | rfl | rfl | rfl | rfl | rfl | rfl | rfl | rfl | rfl
        · simp only [← h 0 (.inl rfl)]; exact hp
        · simp only [← h 1 (.inl rfl)]; exact hp
        · simp only [← h 2 (.inl rfl)]; exact hp
        · simp only [← h 3 (.inl rfl)]; exact hp
        · simp only [← h 4 (.inl rfl)]; exact hp
        · simp only [← h 5 (.inl rfl)]; exact hp
        · simp only [← h 6 (.inl rfl)]; exact hp
        · simp only [← h 7 (.inl rfl)]; exact hp
        · simp only [← h 8 (.inl rfl)]; exact hp
        · simp only [← h 9 (.inl rfl)]; exact hp
        · simp only [← h 10 (.inl rfl)]; exact hp
        · simp only [← h 11 (.inl rfl)]; exact hp
        · simp only [← h 12 (.inl rfl)]; exact hp
        · simp only [← h 13 (.inl rfl)]; exact hp
        · simp only [← h 14 (.inl rfl)]; exact hp
      · intro e he V w1 w2 hp hb
        simp only [List.mem_cons, List.not_mem_nil, or_false] at he
        rcases he with rfl | rfl | rfl | rfl | rfl | rfl | rfl | rfl | rfl | rfl | rfl | rfl | rfl | rfl | rfl
        · exact hp
        · exact hp
        · exact hp
        · exact hp
        · exact hp
        · exact hp
        · exact hp
        · exact hp
        · exact hp
        · exact hp
        · exact hp
        · exact hp
        · exact hp
        · exact hp
        · exact let ⟨s, h1, h2⟩ := hp; ⟨s, h1, (Fr.of_below0 (S := fun _ => False) hb).blk h2 id⟩
      · intro e he
        simp only [List.mem_cons, List.not_mem_nil, or_false] at he
        rcases he with rfl | rfl | rfl | rfl | rfl | rfl | rfl | rfl | rfl | rfl | rfl | rfl | rfl | rfl | rfl
        · intro V a w' hd ho hB
          have e4 : a.tmps[4]? = some (u4) := (ho 4 (by decide)).trans rfl
          refine ⟨_, rfl, rfl, fun K hK => ?_⟩
          clear hd ho
          refine value_ (w1 := w') (v := u4) rfl rfl ?_ (hK.out _ _ (Below.refl _ _) (setV_self _ _ _) (fun h => absurd h (by decide)))
          obtain ⟨Av, cv, xv, _, _⟩ := HVF.out
          rw [xv] at e4 ⊢
          go_simp
        · intro V a w' hd ho hB
          have e3 : a.tmps[3]? = some (.pointer (some ⟨pb2, 0, none⟩)) := (ho 3 (by decide)).trans rfl
          refine ⟨_, rfl, rfl, fun K hK => ?_⟩
          clear hd ho
          refine value_ (w1 := w') (v := .pointer (some ⟨pb2, 0, none⟩)) rfl rfl ?_ (hK.out _ _ (Below.refl _ _) (setV_self _ _ _) (fun h => absurd h (by decide)))
          go_simp
        · intro V a w' hd ho hB
          obtain ⟨e29, p29, o29⟩ := hd (1, 29) (by decide) (by kernel_rfl)
          rw [show V 1 = .pointer (some ⟨pb2, 0, none⟩) from p29] at e29
          have hc := HP0.out w' hB
          refine ⟨_, rfl, rfl, fun K hK => ?_⟩
          clear hd ho
          refine value_ (w1 := w') (v := .slice (some ad) d.fields.length c0) rfl rfl ?_ (hK.out _ _ (Below.refl _ _) (setV_self _ _ _) (fun h => absurd h (by decide)))
          go_simp
        · intro V a w' hd ho hB
          have e5 : a.tmps[5]? = some (.int .i64 j) := (ho 5 (by decide)).trans rfl
          refine ⟨_, rfl, rfl, fun K hK => ?_⟩
          clear hd ho
          refine value_ (w1 := w') (v := .int .i64 j) rfl rfl ?_ (hK.out _ _ (Below.refl _ _) (setV_self _ _ _) (fun h => absurd h (by decide)))
          go_simp
        · intro V a w' hd ho hB
          obtain ⟨e30, p30, o30⟩ := hd (2, 30) (by decide) (by kernel_rfl)
          rw [show V 2 = .slice (some ad) d.fields.length c0 from p30] at e30
          obtain ⟨e31, p31, o31⟩ := hd (3, 31) (by decide) (by kernel_rfl)
          rw [show V 3 = .int .i64 j from p31] at e31
          refine ⟨_, rfl, rfl, fun K hK => ?_⟩
          clear hd ho
          refine value_ (w1 := w') (v := .pointer (some (ad.add j))) rfl rfl ?_ (hK.out _ _ (Below.refl _ _) (setV_self _ _ _) (fun h => absurd h (by decide)))
          go_simp
        · intro V a w' hd ho hB
          obtain ⟨e32, p32, o32⟩ := hd (4, 32) (by decide) (by kernel_rfl)
          rw [show V 4 = .pointer (some (ad.add j)) from p32] at e32
          have hc := HR0.out w' hB
          refine ⟨_, rfl, rfl, fun K hK => ?_⟩
          clear hd ho
          refine value_ (w1 := w') (v := .slice A' row.length c') rfl rfl ?_ (hK.out _ _ (Below.refl _ _) (setV_self _ _ _) (fun h => absurd h (by decide)))
          go_simp
        · intro V a w' hd ho hB
          have e3 : a.tmps[3]? = some (.pointer (some ⟨pb2, 0, none⟩)) := (ho 3 (by decide)).trans rfl
          refine ⟨_, rfl, rfl, fun K hK => ?_⟩
          clear hd ho
          refine value_ (w1 := w') (v := .pointer (some ⟨pb2, 0, none⟩)) rfl rfl ?_ (hK.out _ _ (Below.refl _ _) (setV_self _ _ _) (fun h => absurd h (by decide)))
          go_simp
        · intro V a w' hd ho hB
          obtain ⟨e34, p34, o34⟩ := hd (6, 34) (by decide) (by kernel_rfl)
          rw [show V 6 = .pointer (some ⟨pb2, 0, none⟩) from p34] at e34
          have hc := HP0.out w' hB
          refine ⟨_, rfl, rfl, fun K hK => ?_⟩
          clear hd ho
          refine value_ (w1 := w') (v := .slice (some ad) d.fields.length c0) rfl rfl ?_ (hK.out _ _ (Below.refl _ _) (setV_self _ _ _) (fun h => absurd h (by decide)))
          go_simp
        · intro V a w' hd ho hB
          have e5 : a.tmps[5]? = some (.int .i64 j) := (ho 5 (by decide)).trans rfl
          refine ⟨_, rfl, rfl, fun K hK => ?_⟩
          clear hd ho
          refine value_ (w1 := w') (v := .int .i64 j) rfl rfl ?_ (hK.out _ _ (Below.refl _ _) (setV_self _ _ _) (fun h => absurd h (by decide)))
          go_simp
        · intro V a w' hd ho hB
          obtain ⟨e35, p35, o35⟩ := hd (7, 35) (by decide) (by kernel_rfl)
          rw [show V 7 = .slice (some ad) d.fields.length c0 from p35] at e35
          obtain ⟨e36, p36, o36⟩ := hd (8, 36) (by decide) (by kernel_rfl)
          rw [show V 8 = .int .i64 j from p36] at e36
          refine ⟨_, rfl, rfl, fun K hK => ?_⟩
          clear hd ho
          refine value_ (w1 := w') (v := .pointer (some (ad.add j))) rfl rfl ?_ (hK.out _ _ (Below.refl _ _) (setV_self _ _ _) (fun h => absurd h (by decide)))
          go_simp
        · intro V a w' hd ho hB
          obtain ⟨e37, p37, o37⟩ := hd (9, 37) (by decide) (by kernel_rfl)
          rw [show V 9 = .pointer (some (ad.add j)) from p37] at e37
          have hc := HR0.out w' hB
          refine ⟨_, rfl, rfl, fun K hK => ?_⟩
          clear hd ho
          refine value_ (w1 := w') (v := .slice A' row.length c') rfl rfl ?_ (hK.out _ _ (Below.refl _ _) (setV_self _ _ _) (fun h => absurd h (by decide)))
          go_simp
        · intro V a w' hd ho hB
          obtain ⟨e38, p38, o38⟩ := hd (10, 38) (by decide) (by kernel_rfl)
          rw [show V 10 = .slice A' row.length c' from p38] at e38
          refine ⟨_, rfl, rfl, fun K hK => ?_⟩
          clear hd ho
          refine value_ (w1 := w') (v := .int .i64 row.length) rfl rfl ?_ (hK.out _ _ (Below.refl _ _) (setV_self _ _ _) (fun h => absurd h (by decide)))
          go_simp
        · intro V a w' hd ho hB
          obtain ⟨e39, p39, o39⟩ := hd (11, 39) (by decide) (by kernel_rfl)
          rw [show V 11 = .int .i64 row.length from p39] at e39
          refine ⟨_, rfl, rfl, fun K hK => ?_⟩
          clear hd ho
          refine value_ (w1 := w') (v := .int .i64 m7) rfl rfl ?_ (hK.out _ _ (Below.refl _ _) (setV_self _ _ _) (fun h => absurd h (by decide)))
          rw [HM7.out]
          go_simp
        · intro V a w' hd ho hB
          obtain ⟨e33, p33, o33⟩ := hd (5, 33) (by decide) (by kernel_rfl)
          rw [show V 5 = .slice A' row.length c' from p33] at e33
          obtain ⟨e40, p40, o40⟩ := hd (12, 40) (by decide) (by kernel_rfl)
          rw [show V 12 = .int .i64 m7 from p40] at e40
          refine ⟨_, rfl, rfl, fun K hK => ?_⟩
          clear hd ho
          refine value_ (w1 := w') (v := .slice A' m7.toNat c') rfl rfl ?_ (hK.out _ _ (Below.refl _ _) (setV_self _ _ _) (fun h => absurd h (by decide)))
          go_simp
        · intro V a w' hd ho hB
          obtain ⟨e41, p41, o41⟩ := hd (13, 41) (by decide) (by kernel_rfl)
          rw [show V 13 = .slice A' m7.toNat c' from p41] at e41
          refine ⟨_, rfl, rfl, fun K hK => ?_⟩
          refine value_ (w1 := w'.alloc (.cells #[.slice A' m7.toNat c'] TRI)) (v := .slice (some ⟨w'.heap.size, 0, none⟩) 1 1) rfl rfl ?_ (hK.out _ _ ((Below.refl _ _).alloc (Nat.le_refl _) _) ⟨w'.heap.size, setV_self _ _ _, Blk.new w' TRI [.slice A' m7.toNat c']⟩ (fun h => absurd h (by decide)))
          clear hd ho hK
          go_simp
      · intro V a w' hfr hB hP hap hlt
        have P0 := hP (0, 28) (by decide)
        have P1 := hP (1, 29) (by decide)
        have P2 := hP (2, 30) (by decide)
        have P3 := hP (3, 31) (by decide)
        have P4 := hP (4, 32) (by decide)
        have P5 := hP (5, 33) (by decide)
        have P6 := hP (6, 34) (by decide)
        have P7 := hP (7, 35) (by decide)
        have P8 := hP (8, 36) (by decide)
        have P9 := hP (9, 37) (by decide)
        have P10 := hP (10, 38) (by decide)
        have P11 := hP (11, 39) (by decide)
        have P12 := hP (12, 40) (by decide)
        have P13 := hP (13, 41) (by decide)
        have P14 := hP (14, 42) (by decide)
        clear hP
        obtain ⟨s, hs, hsb⟩ := P14
        have hbr := HBQ.out _ hB
        have hz := HAT.out.more hbr
        obtain ⟨i0, hi, hz0, hz1, hz2⟩ := info_parts pinfo_row
        obtain ⟨v1, w1, hrun, hown, hgrow, _, _⟩ := run_append_own_at (P := Try.prog) w' w.heap.size 22 22 TRI i0 (.slice none 0 0) 1 24 Try.underlying22 hi hz0 hz1 hz2 rfl (by decide) u4 j us hz.f ⟨s, 0, none⟩ 1 1 [.slice A' m7.toNat c'] rfl (fun q u hq => by rw [Go.Proofs.YtphhdmopfmelbaaW.PrintWords.add_plain]; exact (hsb.cell q).trans hq) (by intro u hu; simp only [List.mem_singleton] at hu; subst hu; rfl) (by simp only [maxLen]; omega) (by omega) hz.below.size
        have HN := Lib.hid (HFIN.out w' w1 v1 hbr hgrow hown)
        obtain ⟨A9, c9, x9, _, _⟩ := owns_slice hown
        subst hfr
        simp only [vrows, List.map_cons, List.map_nil, putSel, if_true, Act.put, List.setIfInBounds_toArray, List.set_cons_zero, List.set_cons_succ]
        refine seq_value v1 rfl rfl rfl (append_exec rfl (eval_of (by exact congrArg some P0)) (eval_of (by exact congrArg some hs)) hrun) ?_
        simp only [Act.put, List.setIfInBounds_toArray, List.set_cons_zero, List.set_cons_succ]
        refine seq_value (w1 := w1) v1 rfl rfl rfl ?_ ?_
        · clear hrun hown hgrow hz HN; rw [x9]; go_simp
        simp only [Act.put, List.setIfInBounds_toArray, List.set_cons_zero, List.set_cons_succ]
        clear hrun hown hgrow hz hbr hap x9 hs hsb hB P0 P1 P2 P3 P4 P5 P6 P7 P8 P9 P10 P11 P12 P13 HAT HBQ HP0 HR0 HFIN HM7 HVF
        refine seq_nil ?_
        go_wp2
        go_roundw
        case rel => exact ⟨j + 1, by omega, by omega, by go_num, _, HN.out⟩
        case measure => simp [intOf]; omega
    · by_cases hcut : 70 < d.fields.length
      · have h70 : 70 ≤ j := by omega
        have hjl : j = (d.fields.take 70).length := by simp; omega
        obtain ⟨A0', c0', hfv, hlc0, hC0⟩ := less_reads HAT2.out hjl
        have HC0 := Lib.hid hC0
        have HJL := Lib.hid hjl
        have HLT := Lib.hid HAT2.out
        clear hC0 hjl HAT2
        subst hfv
        obtain ⟨pb2, hpb2⟩ : ∃ pb2, pb2 = w.heap.size + 1 + 1 := ⟨_, rfl⟩
        rw [← hpb2] at hp0 ⊢
        have HBW := Lib.hid (show Blk wr pb2 TRW (v.cells d) by rw [hpb2]; exact HLT.out.box)
        have HPB := Lib.hid hpb2
        clear hpb2
        have hz0 := HBW.out.free ⟨pb2, 0, none⟩ rfl
        obtain ⟨m1, hm1⟩ : ∃ m : Int, m = (if 70 < (d.infos.length : Int) then 70 else (d.infos.length : Int)) := ⟨_, rfl⟩
        obtain ⟨hm11, hm12, hm13⟩ := cut_len _ _ hm1
        have hm14 : m1 ≤ (v.c1 : Int) := by omega
        have HM1 := Lib.hid hm1
        have HMT1 := Lib.hid hm11
        clear hm1 hm11 hm13
        obtain ⟨m2, hm2⟩ : ∃ m : Int, m = (if 70 < (d.marks.length : Int) then 70 else (d.marks.length : Int)) := ⟨_, rfl⟩
        obtain ⟨hm21, hm22, hm23⟩ := cut_len _ _ hm2
        have hm24 : m2 ≤ (v.c2 : Int) := by omega
        have HM2 := Lib.hid hm2
        have HMT2 := Lib.hid hm21
        clear hm2 hm21 hm23
        obtain ⟨m3, hm3⟩ : ∃ m : Int, m = (if 70 < (d.states.length : Int) then 70 else (d.states.length : Int)) := ⟨_, rfl⟩
        obtain ⟨hm31, hm32, hm33⟩ := cut_len _ _ hm3
        have hm34 : m3 ≤ (v.c3 : Int) := by omega
        have HM3 := Lib.hid hm3
        have HMT3 := Lib.hid hm31
        clear hm3 hm31 hm33
        obtain ⟨m4, hm4⟩ : ∃ m : Int, m = (if 70 < (d.frozen.length : Int) then 70 else (d.frozen.length : Int)) := ⟨_, rfl⟩
        obtain ⟨hm41, hm42, hm43⟩ := cut_len _ _ hm4
        have hm44 : m4 ≤ (v.c4 : Int) := by omega
        have HM4 := Lib.hid hm4
        have HMT4 := Lib.hid hm41
        clear hm4 hm41 hm43
        go_wp2
        have HBX := Lib.hid (show Blk (wr.setCell ⟨pb2, 0, none⟩ (.slice A0' j c0')) pb2 TRW [.slice A0' j c0', .slice v.A1 d.infos.length v.c1, .slice v.A2 d.marks.length v.c2, .slice v.A3 d.states.length v.c3, .slice v.A4 d.frozen.length v.c4] from HBW.out.set 0 (.slice A0' j c0'))
        have HFR := Lib.hid (show Fr wr (wr.setCell ⟨pb2, 0, none⟩ (.slice A0' j c0')) (fun k => k = pb2) from (Fr.refl wr _).setCell _ _ (fun _ => rfl))
        generalize wr.setCell ⟨pb2, 0, none⟩ (.slice A0' j c0') = wX at *
        clear HBW hp0 hz0
        refine start_ (n := 18) (S := fun w' => w'.cell? ⟨pb2, 1, none⟩ = some (.slice v.A1 d.infos.length v.c1) ∧ w'.cell? ⟨pb2, 2, none⟩ = some (.slice v.A2 d.marks.length v.c2)) (ds := [15, 17]) #[false, false, false, false, false, false, false, false, false, false, false, false, false, false, false, false, false, false] (by kernel_rfl) rfl rfl ⟨HBX.out.cell 1, HBX.out.cell 2⟩ (fun hHeld => ?_)
        have HBQ := Lib.hid (show Blk wX.drew pb2 TRW [.slice A0' j c0', .slice v.A1 d.infos.length v.c1, .slice v.A2 d.marks.length v.c2, .slice v.A3 d.states.length v.c3, .slice v.A4 d.frozen.length v.c4] from HBX.out)
        have HST1 := Lib.hid (run_store_run (P := Try.prog) (w := wX.drew) (g := pb2) (o := 1) 23 (.slice v.A1 m1.toNat v.c1) [.slice v.A1 m1.toNat v.c1] HBQ.out rfl (by kernel_rfl) (by simp) (by intro q hq; simp only [List.mem_singleton] at hq; subst hq; rfl))
        have HB1 := Lib.hid (show Blk (wX.drew.setCells pb2 1 [.slice v.A1 m1.toNat v.c1]) pb2 TRW [.slice A0' j c0', .slice v.A1 m1.toNat v.c1, .slice v.A2 d.marks.length v.c2, .slice v.A3 d.states.length v.c3, .slice v.A4 d.frozen.length v.c4] from HBQ.out.set 1 (.slice v.A1 m1.toNat v.c1))
        have HST2 := Lib.hid (run_store_run (P := Try.prog) (w := wX.drew.setCells pb2 1 [.slice v.A1 m1.toNat v.c1]) (g := pb2) (o := 2) 24 (.slice v.A2 m2.toNat v.c2) [.slice v.A2 m2.toNat v.c2] HB1.out rfl (by kernel_rfl) (by simp) (by intro q hq; simp only [List.mem_singleton] at hq; subst hq; rfl))
        have HB2 := Lib.hid (show Blk ((wX.drew.setCells pb2 1 [.slice v.A1 m1.toNat v.c1]).setCells pb2 2 [.slice v.A2 m2.toNat v.c2]) pb2 TRW [.slice A0' j c0', .slice v.A1 m1.toNat v.c1, .slice v.A2 m2.toNat v.c2, .slice v.A3 d.states.length v.c3, .slice v.A4 d.frozen.length v.c4] from HB1.out.set 2 (.slice v.A2 m2.toNat v.c2))
        have HFR2 := Lib.hid (show Fr wr ((wX.drew.setCells pb2 1 [.slice v.A1 m1.toNat v.c1]).setCells pb2 2 [.slice v.A2 m2.toNat v.c2]) (fun k => k = pb2) from ((HFR.out.drew).setCell ⟨pb2, 1, none⟩ (.slice v.A1 m1.toNat v.c1) (fun _ => rfl)).setCell ⟨pb2, 2, none⟩ (.slice v.A2 m2.toNat v.c2) (fun _ => rfl))
        refine pure_ (i := 0) (N := some 51) (v := ?_) (a' := ?_) #[true, false, false, false, false, false, false, false, false, false, false, false, false, false, false, false, false, false] rfl rfl (by kernel_rfl) (fun _ _ _ h => h) (Or.inl ⟨by rfl, ?_⟩) ?_ ?_
        rotate_left
        · intro w'
          go_simp
          with_reducible rfl
        rotate_left
        · simp only [Act.put, List.setIfInBounds_toArray, List.set_cons_zero, List.set_cons_succ]
          rfl
        refine take_ (i := 1) (N := some 52) (v := ?_) (a' := ?_) #[true, true, false, false, false, false, false, false, false, false, false, false, false, false, false, false, false, false] rfl rfl (by kernel_rfl) (fun _ _ _ h => h) (Or.inl ⟨by rfl, ?_⟩) hHeld ?_ ?_
        rotate_left
        · rintro w' ⟨s0, s1⟩
          go_simp
          with_reducible rfl
        rotate_left
        · simp only [Act.put, List.setIfInBounds_toArray, List.set_cons_zero, List.set_cons_succ]
          rfl
        refine pure_ (i := 2) (N := some 53) (v := ?_) (a' := ?_) #[true, true, true, false, false, false, false, false, false, false, false, false, false, false, false, false, false, false] rfl rfl (by kernel_rfl) (fun _ _ _ h => h) (Or.inl ⟨by rfl, ?_⟩) ?_ ?_
        rotate_left
        · intro w'
          go_simp
          with_reducible rfl
        rotate_left
        · simp only [Act.put, List.setIfInBounds_toArray, List.set_cons_zero, List.set_cons_succ]
          rfl
        refine take_ (i := 3) (N := some 54) (v := ?_) (a' := ?_) #[true, true, true, true, false, false, false, false, false, false, false, false, false, false, false, false, false, false] rfl rfl (by kernel_rfl) (fun _ _ _ h => h) (Or.inl ⟨by rfl, ?_⟩) hHeld ?_ ?_
        rotate_left
        · rintro w' ⟨s0, s1⟩
          go_simp
          with_reducible rfl
        rotate_left
        · simp only [Act.put, List.setIfInBounds_toArray, List.set_cons_zero, List.set_cons_succ]
          rfl
        refine pure_ (i := 4) (N := some 55) (v := ?_) (a' := ?_) #[true, true, true, true, true, false, false, false, false, false, false, false, false, false, false, false, false, false] rfl rfl (by kernel_rfl) (fun _ _ _ h => h) (Or.inl ⟨by rfl, ?_⟩) ?_ ?_
        rotate_left
        · intro w'
          go_simp
          with_reducible rfl
        rotate_left
        · simp only [Act.put, List.setIfInBounds_toArray, List.set_cons_zero, List.set_cons_succ]
          rfl
        refine pure_ (i := 5) (N := some 56) (v := .int .i64 m1) (a' := ?_) #[true, true, true, true, true, true, false, false, false, false, false, false, false, false, false, false, false, false] rfl rfl (by kernel_rfl) (fun _ _ _ h => h) (Or.inl ⟨by rfl, ?_⟩) ?_ ?_
        · intro w'
          rw [HM1.out]
          go_simp
        rotate_left
        · simp only [Act.put, List.setIfInBounds_toArray, List.set_cons_zero, List.set_cons_succ]
          rfl
        refine pure_ (i := 6) (N := some 57) (v := ?_) (a' := ?_) #[true, true, true, true, true, true, true, false, false, false, false, false, false, false, false, false, false, false] rfl rfl (by kernel_rfl) (fun _ _ _ h => h) (Or.inl ⟨by rfl, ?_⟩) ?_ ?_
        rotate_left
        · intro w'
          go_simp
          with_reducible rfl
        rotate_left
        · simp only [Act.put, List.setIfInBounds_toArray, List.set_cons_zero, List.set_cons_succ]
          rfl
        refine pure_ (i := 7) (N := some 58) (v := ?_) (a' := ?_) #[true, true, true, true, true, true, true, true, false, false, false, false, false, false, false, false, false, false] rfl rfl (by kernel_rfl) (fun _ _ _ h => h) (Or.inl ⟨by rfl, ?_⟩) ?_ ?_
        rotate_left
        · intro w'
          go_simp
          with_reducible rfl
        rotate_left
        · simp only [Act.put, List.setIfInBounds_toArray, List.set_cons_zero, List.set_cons_succ]
          rfl
        refine take_ (i := 8) (N := some 59) (v := ?_) (a' := ?_) #[true, true, true, true, true, true, true, true, true, false, false, false, false, false, false, false, false, false] rfl rfl (by kernel_rfl) (fun _ _ _ h => h) (Or.inl ⟨by rfl, ?_⟩) hHeld ?_ ?_
        rotate_left
        · rintro w' ⟨s0, s1⟩
          go_simp
          with_reducible rfl
        rotate_left
        · simp only [Act.put, List.setIfInBounds_toArray, List.set_cons_zero, List.set_cons_succ]
          rfl
        refine pure_ (i := 9) (N := some 60) (v := ?_) (a' := ?_) #[true, true, true, true, true, true, true, true, true, true, false, false, false, false, false, false, false, false] rfl rfl (by kernel_rfl) (fun _ _ _ h => h) (Or.inl ⟨by rfl, ?_⟩) ?_ ?_
        rotate_left
        · intro w'
          go_simp
          with_reducible rfl
        rotate_left
        · simp only [Act.put, List.setIfInBounds_toArray, List.set_cons_zero, List.set_cons_succ]
          rfl
        refine take_ (i := 10) (N := some 61) (v := ?_) (a' := ?_) #[true, true, true, true, true, true, true, true, true, true, true, false, false, false, false, false, false, false] rfl rfl (by kernel_rfl) (fun _ _ _ h => h) (Or.inl ⟨by rfl, ?_⟩) hHeld ?_ ?_
        rotate_left
        · rintro w' ⟨s0, s1⟩
          go_simp
          with_reducible rfl
        rotate_left
        · simp only [Act.put, List.setIfInBounds_toArray, List.set_cons_zero, List.set_cons_succ]
          rfl
        refine pure_ (i := 11) (N := some 62) (v := ?_) (a' := ?_) #[true, true, true, true, true, true, true, true, true, true, true, true, false, false, false, false, false, false] rfl rfl (by kernel_rfl) (fun _ _ _ h => h) (Or.inl ⟨by rfl, ?_⟩) ?_ ?_
        rotate_left
        · intro w'
          go_simp
          with_reducible rfl
        rotate_left
        · simp only [Act.put, List.setIfInBounds_toArray, List.set_cons_zero, List.set_cons_succ]
          rfl
        refine pure_ (i := 12) (N := some 63) (v := .int .i64 m2) (a' := ?_) #[true, true, true, true, true, true, true, true, true, true, true, true, true, false, false, false, false, false] rfl rfl (by kernel_rfl) (fun _ _ _ h => h) (Or.inl ⟨by rfl, ?_⟩) ?_ ?_
        · intro w'
          rw [HM2.out]
          go_simp
        rotate_left
        · simp only [Act.put, List.setIfInBounds_toArray, List.set_cons_zero, List.set_cons_succ]
          rfl
        refine pure_ (i := 13) (N := some 64) (v := ?_) (a' := ?_) #[true, true, true, true, true, true, true, true, true, true, true, true, true, true, false, false, false, false] rfl rfl (by kernel_rfl) (fun _ _ _ h => h) (Or.inl ⟨by rfl, ?_⟩) ?_ ?_
        rotate_left
        · intro w'
          go_simp
          with_reducible rfl
        rotate_left
        · simp only [Act.put, List.setIfInBounds_toArray, List.set_cons_zero, List.set_cons_succ]
          rfl
        refine pure_ (i := 14) (N := some 65) (v := ?_) (a' := ?_) #[true, true, true, true, true, true, true, true, true, true, true, true, true, true, true, false, false, false] rfl rfl (by kernel_rfl) (fun _ _ _ h => h) (Or.inl ⟨by rfl, ?_⟩) ?_ ?_
        rotate_left
        · intro w'
          go_simp
          with_reducible rfl
        rotate_left
        · simp only [Act.put, List.setIfInBounds_toArray, List.set_cons_zero, List.set_cons_succ]
          rfl
        refine last_ (i := 15) (N := none) #[true, true, true, true, true, true, true, true, true, true, true, true, true, true, true, true, false, false] rfl rfl (by kernel_rfl) (by decide) (fun K hK => ?_)
        refine skip_ (by rfl) rfl (store_exec rfl (eval_of rfl) (eval_of rfl) HST1.out) (hK.out _ _ ?_)
        clear hK
        refine pure_ (i := 16) (N := some 66) (v := ?_) (a' := ?_) #[true, true, true, true, true, true, true, true, true, true, true, true, true, true, true, true, true, false] rfl rfl (by kernel_rfl) (fun _ _ _ h => h) (Or.inl ⟨by rfl, ?_⟩) ?_ ?_
        rotate_left
        · intro w'
          go_simp
          with_reducible rfl
        rotate_left
        · simp only [Act.put, List.setIfInBounds_toArray, List.set_cons_zero, List.set_cons_succ]
          rfl
        refine last_ (i := 17) (N := none) #[true, true, true, true, true, true, true, true, true, true, true, true, true, true, true, true, true, true] rfl rfl (by kernel_rfl) (by decide) (fun K hK => ?_)
        refine skip_ (by rfl) rfl (store_exec rfl (eval_of rfl) (eval_of rfl) HST2.out) (hK.out _ _ ?_)
        clear hK
        refine done_ (by kernel_rfl) ?_
        generalize (wX.drew.setCells pb2 1 [.slice v.A1 m1.toNat v.c1]).setCells pb2 2 [.slice v.A2 m2.toNat v.c2] = wY at *
        clear hHeld HBX HBQ HB1 HST1 HST2 HFR
        have HBX := Lib.hid HB2.out
        have HFR := Lib.hid HFR2.out
        clear HB2 HFR2
        go_wp2
        refine start_ (n := 18) (S := fun w' => w'.cell? ⟨pb2, 3, none⟩ = some (.slice v.A3 d.states.length v.c3) ∧ w'.cell? ⟨pb2, 4, none⟩ = some (.slice v.A4 d.frozen.length v.c4)) (ds := [15, 17]) #[false, false, false, false, false, false, false, false, false, false, false, false, false, false, false, false, false, false] (by kernel_rfl) rfl rfl ⟨HBX.out.cell 3, HBX.out.cell 4⟩ (fun hHeld => ?_)
        have HBQ := Lib.hid (show Blk wY.drew pb2 TRW [.slice A0' j c0', .slice v.A1 m1.toNat v.c1, .slice v.A2 m2.toNat v.c2, .slice v.A3 d.states.length v.c3, .slice v.A4 d.frozen.length v.c4] from HBX.out)
        have HST1 := Lib.hid (run_store_run (P := Try.prog) (w := wY.drew) (g := pb2) (o := 3) 23 (.slice v.A3 m3.toNat v.c3) [.slice v.A3 m3.toNat v.c3] HBQ.out rfl (by kernel_rfl) (by simp) (by intro q hq; simp only [List.mem_singleton] at hq; subst hq; rfl))
        have HB1 := Lib.hid (show Blk (wY.drew.setCells pb2 3 [.slice v.A3 m3.toNat v.c3]) pb2 TRW [.slice A0' j c0', .slice v.A1 m1.toNat v.c1, .slice v.A2 m2.toNat v.c2, .slice v.A3 m3.toNat v.c3, .slice v.A4 d.frozen.length v.c4] from HBQ.out.set 3 (.slice v.A3 m3.toNat v.c3))
        have HST2 := Lib.hid (run_store_run (P := Try.prog) (w := wY.drew.setCells pb2 3 [.slice v.A3 m3.toNat v.c3]) (g := pb2) (o := 4) 24 (.slice v.A4 m4.toNat v.c4) [.slice v.A4 m4.toNat v.c4] HB1.out rfl (by kernel_rfl) (by simp) (by intro q hq; simp only [List.mem_singleton] at hq; subst hq; rfl))
        have HB2 := Lib.hid (show Blk ((wY.drew.setCells pb2 3 [.slice v.A3 m3.toNat v.c3]).setCells pb2 4 [.slice v.A4 m4.toNat v.c4]) pb2 TRW [.slice A0' j c0', .slice v.A1 m1.toNat v.c1, .slice v.A2 m2.toNat v.c2, .slice v.A3 m3.toNat v.c3, .slice v.A4 m4.toNat v.c4] from HB1.out.set 4 (.slice v.A4 m4.toNat v.c4))
        have HFR2 := Lib.hid (show Fr wr ((wY.drew.setCells pb2 3 [.slice v.A3 m3.toNat v.c3]).setCells pb2 4 [.slice v.A4 m4.toNat v.c4]) (fun k => k = pb2) from ((HFR.out.drew).setCell ⟨pb2, 3, none⟩ (.slice v.A3 m3.toNat v.c3) (fun _ => rfl)).setCell ⟨pb2, 4, none⟩ (.slice v.A4 m4.toNat v.c4) (fun _ => rfl))
        refine pure_ (i := 0) (N := some 67) (v := ?_) (a' := ?_) #[true, false, false, false, false, false, false, false, false, false, false, false, false, false, false, false, false, false] rfl rfl (by kernel_rfl) (fun _ _ _ h => h) (Or.inl ⟨by rfl, ?_⟩) ?_ ?_
        rotate_left
        · intro w'
          go_simp
          with_reducible rfl
        rotate_left
        · simp only [Act.put, List.setIfInBounds_toArray, List.set_cons_zero, List.set_cons_succ]
          rfl
        refine take_ (i := 1) (N := some 68) (v := ?_) (a' := ?_) #[true, true, false, false, false, false, false, false, false, false, false, false, false, false, false, false, false, false] rfl rfl (by kernel_rfl) (fun _ _ _ h => h) (Or.inl ⟨by rfl, ?_⟩) hHeld ?_ ?_
        rotate_left
        · rintro w' ⟨s0, s1⟩
          go_simp
          with_reducible rfl
        rotate_left
        · simp only [Act.put, List.setIfInBounds_toArray, List.set_cons_zero, List.set_cons_succ]
          rfl
        refine pure_ (i := 2) (N := some 69) (v := ?_) (a' := ?_) #[true, true, true, false, false, false, false, false, false, false, false, false, false, false, false, false, false, false] rfl rfl (by kernel_rfl) (fun _ _ _ h => h) (Or.inl ⟨by rfl, ?_⟩) ?_ ?_
        rotate_left
        · intro w'
          go_simp
          with_reducible rfl
        rotate_left
        · simp only [Act.put, List.setIfInBounds_toArray, List.set_cons_zero, List.set_cons_succ]
          rfl
        refine take_ (i := 3) (N := some 70) (v := ?_) (a' := ?_) #[true, true, true, true, false, false, false, false, false, false, false, false, false, false, false, false, false, false] rfl rfl (by kernel_rfl) (fun _ _ _ h => h) (Or.inl ⟨by rfl, ?_⟩) hHeld ?_ ?_
        rotate_left
        · rintro w' ⟨s0, s1⟩
          go_simp
          with_reducible rfl
        rotate_left
        · simp only [Act.put, List.setIfInBounds_toArray, List.set_cons_zero, List.set_cons_succ]
          rfl
        refine pure_ (i := 4) (N := some 71) (v := ?_) (a' := ?_) #[true, true, true, true, true, false, false, false, false, false, false, false, false, false, false, false, false, false] rfl rfl (by kernel_rfl) (fun _ _ _ h => h) (Or.inl ⟨by rfl, ?_⟩) ?_ ?_
        rotate_left
        · intro w'
          go_simp
          with_reducible rfl
        rotate_left
        · simp only [Act.put, List.setIfInBounds_toArray, List.set_cons_zero, List.set_cons_succ]
          rfl
        refine pure_ (i := 5) (N := some 72) (v := .int .i64 m3) (a' := ?_) #[true, true, true, true, true, true, false, false, false, false, false, false, false, false, false, false, false, false] rfl rfl (by kernel_rfl) (fun _ _ _ h => h) (Or.inl ⟨by rfl, ?_⟩) ?_ ?_
        · intro w'
          rw [HM3.out]
          go_simp
        rotate_left
        · simp only [Act.put, List.setIfInBounds_toArray, List.set_cons_zero, List.set_cons_succ]
          rfl
        refine pure_ (i := 6) (N := some 73) (v := ?_) (a' := ?_) #[true, true, true, true, true, true, true, false, false, false, false, false, false, false, false, false, false, false] rfl rfl (by kernel_rfl) (fun _ _ _ h => h) (Or.inl ⟨by rfl, ?_⟩) ?_ ?_
        rotate_left
        · intro w'
          go_simp
          with_reducible rfl
        rotate_left
        · simp only [Act.put, List.setIfInBounds_toArray, List.set_cons_zero, List.set_cons_succ]
          rfl
        refine pure_ (i := 7) (N := some 74) (v := ?_) (a' := ?_) #[true, true, true, true, true, true, true, true, false, false, false, false, false, false, false, false, false, false] rfl rfl (by kernel_rfl) (fun _ _ _ h => h) (Or.inl ⟨by rfl, ?_⟩) ?_ ?_
        rotate_left
        · intro w'
          go_simp
          with_reducible rfl
        rotate_left
        · simp only [Act.put, List.setIfInBounds_toArray, List.set_cons_zero, List.set_cons_succ]
          rfl
        refine take_ (i := 8) (N := some 75) (v := ?_) (a' := ?_) #[true, true, true, true, true, true, true, true, true, false, false, false, false, false, false, false, false, false] rfl rfl (by kernel_rfl) (fun _ _ _ h => h) (Or.inl ⟨by rfl, ?_⟩) hHeld ?_ ?_
        rotate_left
        · rintro w' ⟨s0, s1⟩
          go_simp
          with_reducible rfl
        rotate_left
        · simp only [Act.put, List.setIfInBounds_toArray, List.set_cons_zero, List.set_cons_succ]
          rfl
        refine pure_ (i := 9) (N := some 76) (v := ?_) (a' := ?_) #[true, true, true, true, true, true, true, true, true, true, false, false, false, false, false, false, false, false] rfl rfl (by kernel_rfl) (fun _ _ _ h => h) (Or.inl ⟨by rfl, ?_⟩) ?_ ?_
        rotate_left
        · intro w'
          go_simp
          with_reducible rfl
        rotate_left
        · simp only [Act.put, List.setIfInBounds_toArray, List.set_cons_zero, List.set_cons_succ]
          rfl
        refine take_ (i := 10) (N := some 77) (v := ?_) (a' := ?_) #[true, true, true, true, true, true, true, true, true, true, true, false, false, false, false, false, false, false] rfl rfl (by kernel_rfl) (fun _ _ _ h => h) (Or.inl ⟨by rfl, ?_⟩) hHeld ?_ ?_
        rotate_left
        · rintro w' ⟨s0, s1⟩
          go_simp
          with_reducible rfl
        rotate_left
        · simp only [Act.put, List.setIfInBounds_toArray, List.set_cons_zero, List.set_cons_succ]
          rfl
        refine pure_ (i := 11) (N := some 78) (v := ?_) (a' := ?_) #[true, true, true, true, true, true, true, true, true, true, true, true, false, false, false, false, false, false] rfl rfl (by kernel_rfl) (fun _ _ _ h => h) (Or.inl ⟨by rfl, ?_⟩) ?_ ?_
        rotate_left
        · intro w'
          go_simp
          with_reducible rfl
        rotate_left
        · simp only [Act.put, List.setIfInBounds_toArray, List.set_cons_zero, List.set_cons_succ]
          rfl
        refine pure_ (i := 12) (N := some 79) (v := .int .i64 m4) (a' := ?_) #[true, true, true, true, true, true, true, true, true, true, true, true, true, false, false, false, false, false] rfl rfl (by kernel_rfl) (fun _ _ _ h => h) (Or.inl ⟨by rfl, ?_⟩) ?_ ?_
        · intro w'
          rw [HM4.out]
          go_simp
        rotate_left
        · simp only [Act.put, List.setIfInBounds_toArray, List.set_cons_zero, List.set_cons_succ]
          rfl
        refine pure_ (i := 13) (N := some 80) (v := ?_) (a' := ?_) #[true, true, true, true, true, true, true, true, true, true, true, true, true, true, false, false, false, false] rfl rfl (by kernel_rfl) (fun _ _ _ h => h) (Or.inl ⟨by rfl, ?_⟩) ?_ ?_
        rotate_left
        · intro w'
          go_simp
          with_reducible rfl
        rotate_left
        · simp only [Act.put, List.setIfInBounds_toArray, List.set_cons_zero, List.set_cons_succ]
          rfl
        refine pure_ (i := 14) (N := some 81) (v := ?_) (a' := ?_) #[true, true, true, true, true, true, true, true, true, true, true, true, true, true, true, false, false, false] rfl rfl (by kernel_rfl) (fun _ _ _ h => h) (Or.inl ⟨by rfl, ?_⟩) ?_ ?_
        rotate_left
        · intro w'
          go_simp
          with_reducible rfl
        rotate_left
        · simp only [Act.put, List.setIfInBounds_toArray, List.set_cons_zero, List.set_cons_succ]
          rfl
        refine last_ (i := 15) (N := none) #[true, true, true, true, true, true, true, true, true, true, true, true, true, true, true, true, false, false] rfl rfl (by kernel_rfl) (by decide) (fun K hK => ?_)
        refine skip_ (by rfl) rfl (store_exec rfl (eval_of rfl) (eval_of rfl) HST1.out) (hK.out _ _ ?_)
        clear hK
        refine pure_ (i := 16) (N := some 82) (v := ?_) (a' := ?_) #[true, true, true, true, true, true, true, true, true, true, true, true, true, true, true, true, true, false] rfl rfl (by kernel_rfl) (fun _ _ _ h => h) (Or.inl ⟨by rfl, ?_⟩) ?_ ?_
        rotate_left
        · intro w'
          go_simp
          with_reducible rfl
        rotate_left
        · simp only [Act.put, List.setIfInBounds_toArray, List.set_cons_zero, List.set_cons_succ]
          rfl
        refine last_ (i := 17) (N := none) #[true, true, true, true, true, true, true, true, true, true, true, true, true, true, true, true, true, true] rfl rfl (by kernel_rfl) (by decide) (fun K hK => ?_)
        refine skip_ (by rfl) rfl (store_exec rfl (eval_of rfl) (eval_of rfl) HST2.out) (hK.out _ _ ?_)
        clear hK
        refine done_ (by kernel_rfl) ?_
        generalize (wY.drew.setCells pb2 3 [.slice v.A3 m3.toNat v.c3]).setCells pb2 4 [.slice v.A4 m4.toNat v.c4] = wZ at *
        clear hHeld HBX HBQ HB1 HST1 HST2 HFR
        have HBX := Lib.hid HB2.out
        have HFR := Lib.hid HFR2.out
        clear HB2 HFR2
        have hb0 := HBX.out.cell 0
        have hb1 := HBX.out.cell 1
        have hb2 := HBX.out.cell 2
        have hb3 := HBX.out.cell 3
        have hb4 := HBX.out.cell 4
        have hpar := HFR.out.blk HLT.out.par (fun e => by have := HPB.out; omega)
        have hres := HFR.out.blk HLT.out.res (fun e => by have := HPB.out; omega)
        have hq0 := hpar.cell 0
        have hr0 := hres.cell 0
        have hf0 := hpar.free ⟨w.heap.size, 0, none⟩ rfl
        have hg0 := hres.free ⟨w.heap.size + 1, 0, none⟩ rfl
        have hq1 := hpar.cell 1
        have hr1 := hres.cell 1
        have hf1 := hpar.free ⟨w.heap.size, 1, none⟩ rfl
        have hg1 := hres.free ⟨w.heap.size + 1, 1, none⟩ rfl
        have hq2 := hpar.cell 2
        have hr2 := hres.cell 2
        have hf2 := hpar.free ⟨w.heap.size, 2, none⟩ rfl
        have hg2 := hres.free ⟨w.heap.size + 1, 2, none⟩ rfl
        have hq3 := hpar.cell 3
        have hr3 := hres.cell 3
        have hf3 := hpar.free ⟨w.heap.size, 3, none⟩ rfl
        have hg3 := hres.free ⟨w.heap.size + 1, 3, none⟩ rfl
        have hq4 := hpar.cell 4
        have hr4 := hres.cell 4
        have hf4 := hpar.free ⟨w.heap.size, 4, none⟩ rfl
        have hg4 := hres.free ⟨w.heap.size + 1, 4, none⟩ rfl
        have hq5 := hpar.cell 5
        have hr5 := hres.cell 5
        have hf5 := hpar.free ⟨w.heap.size, 5, none⟩ rfl
        have hg5 := hres.free ⟨w.heap.size + 1, 5, none⟩ rfl
        have hq6 := hpar.cell 6
        have hr6 := hres.cell 6
        have hf6 := hpar.free ⟨w.heap.size, 6, none⟩ rfl
        have hg6 := hres.free ⟨w.heap.size + 1, 6, none⟩ rfl
        have hq7 := hpar.cell 7
        have hr7 := hres.cell 7
        have hf7 := hpar.free ⟨w.heap.size, 7, none⟩ rfl
        have hg7 := hres.free ⟨w.heap.size + 1, 7, none⟩ rfl
        simp only [List.getElem?_cons_zero, List.getElem?_cons_succ] at hb0 hb1 hb2 hb3 hb4 hq0 hr0 hq1 hr1 hq2 hr2 hq3 hr3 hq4 hr4 hq5 hr5 hq6 hr6 hq7 hr7
        have HPAR := Lib.hid hpar
        have HRES := Lib.hid hres
        clear hpar hres
        have HBLK := Lib.hid (fun wz e => less_last HPAR.out HRES.out (Nat.succ_ne_self _) (.slice A0' j c0') (.slice v.A1 m1.toNat v.c1) (.slice v.A2 m2.toNat v.c2) (.slice v.A3 m3.toNat v.c3) (.slice v.A4 m4.toNat v.c4) wz e)
        have HFIN := Lib.hid (fun wz (hf : Fr _ wz _) => less_post (wz := wz) (n1 := m1.toNat) (n2 := m2.toNat) (l' := l') (A := A) (c := c) (N := N) (M := M) HV.out HLT.out HJL.out hlc0 HC0.out (((HFR.out.mono (fun k _ hk => .inl (hk.trans HPB.out))).trans (hf.mono (S' := fun k => k = w.heap.size + 1 + 1 ∨ k = w.heap.size ∨ k = w.heap.size + 1) (fun _ _ h => .inr h)) (fun _ _ => id))) (by rw [HMT1.out]; simp [lessD, hcut]) (by rw [HMT2.out]; simp [lessD, hcut]) (HMT3.out) (HMT4.out))
        clear HPAR HRES HBX HFR HLT HC0 HMT1 HMT2 HMT3 HMT4 HM1 HM2 HM3 HM4 HJL
        go_wp2
        (try simp only [Exit.inBlock, Exit.then])
        refine bodyPost_end (results_cell_row rfl _ _ (w.heap.size + 1) TCA _ (0, 0) _ rfl (HBLK.out _ rfl).1 Try.underlying46 rfl csize) rfl ?_
        exact HQ'.out _ _ (HFIN.out _ (HBLK.out _ rfl).2)
      · have h70 : d.fields.length ≤ j := by omega
        have hjl : j = (d.fields.take 70).length := by simp; omega
        obtain ⟨A0', c0', hfv, hlc0, hC0⟩ := less_reads HAT2.out hjl
        have HC0 := Lib.hid hC0
        have HJL := Lib.hid hjl
        have HLT := Lib.hid HAT2.out
        clear hC0 hjl HAT2
        subst hfv
        obtain ⟨pb2, hpb2⟩ : ∃ pb2, pb2 = w.heap.size + 1 + 1 := ⟨_, rfl⟩
        rw [← hpb2] at hp0 ⊢
        have HBW := Lib.hid (show Blk wr pb2 TRW (v.cells d) by rw [hpb2]; exact HLT.out.box)
        have HPB := Lib.hid hpb2
        clear hpb2
        have hz0 := HBW.out.free ⟨pb2, 0, none⟩ rfl
        obtain ⟨m1, hm1⟩ : ∃ m : Int, m = (if 70 < (d.infos.length : Int) then 70 else (d.infos.length : Int)) := ⟨_, rfl⟩
        obtain ⟨hm11, hm12, hm13⟩ := cut_len _ _ hm1
        have hm14 : m1 ≤ (v.c1 : Int) := by omega
        have HM1 := Lib.hid hm1
        have HMT1 := Lib.hid hm11
        clear hm1 hm11 hm13
        obtain ⟨m2, hm2⟩ : ∃ m : Int, m = (if 70 < (d.marks.length : Int) then 70 else (d.marks.length : Int)) := ⟨_, rfl⟩
        obtain ⟨hm21, hm22, hm23⟩ := cut_len _ _ hm2
        have hm24 : m2 ≤ (v.c2 : Int) := by omega
        have HM2 := Lib.hid hm2
        have HMT2 := Lib.hid hm21
        clear hm2 hm21 hm23
        obtain ⟨m3, hm3⟩ : ∃ m : Int, m = (if 70 < (d.states.length : Int) then 70 else (d.states.length : Int)) := ⟨_, rfl⟩
        obtain ⟨hm31, hm32, hm33⟩ := cut_len _ _ hm3
        have hm34 : m3 ≤ (v.c3 : Int) := by omega
        have HM3 := Lib.hid hm3
        have HMT3 := Lib.hid hm31
        clear hm3 hm31 hm33
        obtain ⟨m4, hm4⟩ : ∃ m : Int, m = (if 70 < (d.frozen.length : Int) then 70 else (d.frozen.length : Int)) := ⟨_, rfl⟩
        obtain ⟨hm41, hm42, hm43⟩ := cut_len _ _ hm4
        have hm44 : m4 ≤ (v.c4 : Int) := by omega
        have HM4 := Lib.hid hm4
        have HMT4 := Lib.hid hm41
        clear hm4 hm41 hm43
        go_wp2
        have HBX := Lib.hid (show Blk (wr.setCell ⟨pb2, 0, none⟩ (.slice A0' j c0')) pb2 TRW [.slice A0' j c0', .slice v.A1 d.infos.length v.c1, .slice v.A2 d.marks.length v.c2, .slice v.A3 d.states.length v.c3, .slice v.A4 d.frozen.length v.c4] from HBW.out.set 0 (.slice A0' j c0'))
        have HFR := Lib.hid (show Fr wr (wr.setCell ⟨pb2, 0, none⟩ (.slice A0' j c0')) (fun k => k = pb2) from (Fr.refl wr _).setCell _ _ (fun _ => rfl))
        generalize wr.setCell ⟨pb2, 0, none⟩ (.slice A0' j c0') = wX at *
        clear HBW hp0 hz0
        refine start_ (n := 18) (S := fun w' => w'.cell? ⟨pb2, 3, none⟩ = some (.slice v.A3 d.states.length v.c3) ∧ w'.cell? ⟨pb2, 4, none⟩ = some (.slice v.A4 d.frozen.length v.c4)) (ds := [15, 17]) #[false, false, false, false, false, false, false, false, false, false, false, false, false, false, false, false, false, false] (by kernel_rfl) rfl rfl ⟨HBX.out.cell 3, HBX.out.cell 4⟩ (fun hHeld => ?_)
        have HBQ := Lib.hid (show Blk wX.drew pb2 TRW [.slice A0' j c0', .slice v.A1 d.infos.length v.c1, .slice v.A2 d.marks.length v.c2, .slice v.A3 d.states.length v.c3, .slice v.A4 d.frozen.length v.c4] from HBX.out)
        have HST1 := Lib.hid (run_store_run (P := Try.prog) (w := wX.drew) (g := pb2) (o := 3) 23 (.slice v.A3 m3.toNat v.c3) [.slice v.A3 m3.toNat v.c3] HBQ.out rfl (by kernel_rfl) (by simp) (by intro q hq; simp only [List.mem_singleton] at hq; subst hq; rfl))
        have HB1 := Lib.hid (show Blk (wX.drew.setCells pb2 3 [.slice v.A3 m3.toNat v.c3]) pb2 TRW [.slice A0' j c0', .slice v.A1 d.infos.length v.c1, .slice v.A2 d.marks.length v.c2, .slice v.A3 m3.toNat v.c3, .slice v.A4 d.frozen.length v.c4] from HBQ.out.set 3 (.slice v.A3 m3.toNat v.c3))
        have HST2 := Lib.hid (run_store_run (P := Try.prog) (w := wX.drew.setCells pb2 3 [.slice v.A3 m3.toNat v.c3]) (g := pb2) (o := 4) 24 (.slice v.A4 m4.toNat v.c4) [.slice v.A4 m4.toNat v.c4] HB1.out rfl (by kernel_rfl) (by simp) (by intro q hq; simp only [List.mem_singleton] at hq; subst hq; rfl))
        have HB2 := Lib.hid (show Blk ((wX.drew.setCells pb2 3 [.slice v.A3 m3.toNat v.c3]).setCells pb2 4 [.slice v.A4 m4.toNat v.c4]) pb2 TRW [.slice A0' j c0', .slice v.A1 d.infos.length v.c1, .slice v.A2 d.marks.length v.c2, .slice v.A3 m3.toNat v.c3, .slice v.A4 m4.toNat v.c4] from HB1.out.set 4 (.slice v.A4 m4.toNat v.c4))
        have HFR2 := Lib.hid (show Fr wr ((wX.drew.setCells pb2 3 [.slice v.A3 m3.toNat v.c3]).setCells pb2 4 [.slice v.A4 m4.toNat v.c4]) (fun k => k = pb2) from ((HFR.out.drew).setCell ⟨pb2, 3, none⟩ (.slice v.A3 m3.toNat v.c3) (fun _ => rfl)).setCell ⟨pb2, 4, none⟩ (.slice v.A4 m4.toNat v.c4) (fun _ => rfl))
        refine pure_ (i := 0) (N := some 67) (v := ?_) (a' := ?_) #[true, false, false, false, false, false, false, false, false, false, false, false, false, false, false, false, false, false] rfl rfl (by kernel_rfl) (fun _ _ _ h => h) (Or.inl ⟨by rfl, ?_⟩) ?_ ?_
        rotate_left
        · intro w'
          go_simp
          with_reducible rfl
        rotate_left
        · simp only [Act.put, List.setIfInBounds_toArray, List.set_cons_zero, List.set_cons_succ]
          rfl
        refine take_ (i := 1) (N := some 68) (v := ?_) (a' := ?_) #[true, true, false, false, false, false, false, false, false, false, false, false, false, false, false, false, false, false] rfl rfl (by kernel_rfl) (fun _ _ _ h => h) (Or.inl ⟨by rfl, ?_⟩) hHeld ?_ ?_
        rotate_left
        · rintro w' ⟨s0, s1⟩
          go_simp
          with_reducible rfl
        rotate_left
        · simp only [Act.put, List.setIfInBounds_toArray, List.set_cons_zero, List.set_cons_succ]
          rfl
        refine pure_ (i := 2) (N := some 69) (v := ?_) (a' := ?_) #[true, true, true, false, false, false, false, false, false, false, false, false, false, false, false, false, false, false] rfl rfl (by kernel_rfl) (fun _ _ _ h => h) (Or.inl ⟨by rfl, ?_⟩) ?_ ?_
        rotate_left
        · intro w'
          go_simp
          with_reducible rfl
        rotate_left
        · simp only [Act.put, List.setIfInBounds_toArray, List.set_cons_zero, List.set_cons_succ]
          rfl
        refine take_ (i := 3) (N := some 70) (v := ?_) (a' := ?_) #[true, true, true, true, false, false, false, false, false, false, false, false, false, false, false, false, false, false] rfl rfl (by kernel_rfl) (fun _ _ _ h => h) (Or.inl ⟨by rfl, ?_⟩) hHeld ?_ ?_
        rotate_left
        · rintro w' ⟨s0, s1⟩
          go_simp
          with_reducible rfl
        rotate_left
        · simp only [Act.put, List.setIfInBounds_toArray, List.set_cons_zero, List.set_cons_succ]
          rfl
        refine pure_ (i := 4) (N := some 71) (v := ?_) (a' := ?_) #[true, true, true, true, true, false, false, false, false, false, false, false, false, false, false, false, false, false] rfl rfl (by kernel_rfl) (fun _ _ _ h => h) (Or.inl ⟨by rfl, ?_⟩) ?_ ?_
        rotate_left
        · intro w'
          go_simp
          with_reducible rfl
        rotate_left
        · simp only [Act.put, List.setIfInBounds_toArray, List.set_cons_zero, List.set_cons_succ]
          rfl
        refine pure_ (i := 5) (N := some 72) (v := .int .i64 m3) (a' := ?_) #[true, true, true, true, true, true, false, false, false, false, false, false, false, false, false, false, false, false] rfl rfl (by kernel_rfl) (fun _ _ _ h => h) (Or.inl ⟨by rfl, ?_⟩) ?_ ?_
        · intro w'
          rw [HM3.out]
          go_simp
        rotate_left
        · simp only [Act.put, List.setIfInBounds_toArray, List.set_cons_zero, List.set_cons_succ]
          rfl
        refine pure_ (i := 6) (N := some 73) (v := ?_) (a' := ?_) #[true, true, true, true, true, true, true, false, false, false, false, false, false, false, false, false, false, false] rfl rfl (by kernel_rfl) (fun _ _ _ h => h) (Or.inl ⟨by rfl, ?_⟩) ?_ ?_
        rotate_left
        · intro w'
          go_simp
          with_reducible rfl
        rotate_left
        · simp only [Act.put, List.setIfInBounds_toArray, List.set_cons_zero, List.set_cons_succ]
          rfl
        refine pure_ (i := 7) (N := some 74) (v := ?_) (a' := ?_) #[true, true, true, true, true, true, true, true, false, false, false, false, false, false, false, false, false, false] rfl rfl (by kernel_rfl) (fun _ _ _ h => h) (Or.inl ⟨by rfl, ?_⟩) ?_ ?_
        rotate_left
        · intro w'
          go_simp
          with_reducible rfl
        rotate_left
        · simp only [Act.put, List.setIfInBounds_toArray, List.set_cons_zero, List.set_cons_succ]
          rfl
        refine take_ (i := 8) (N := some 75) (v := ?_) (a' := ?_) #[true, true, true, true, true, true, true, true, true, false, false, false, false, false, false, false, false, false] rfl rfl (by kernel_rfl) (fun _ _ _ h => h) (Or.inl ⟨by rfl, ?_⟩) hHeld ?_ ?_
        rotate_left
        · rintro w' ⟨s0, s1⟩
          go_simp
          with_reducible rfl
        rotate_left
        · simp only [Act.put, List.setIfInBounds_toArray, List.set_cons_zero, List.set_cons_succ]
          rfl
        refine pure_ (i := 9) (N := some 76) (v := ?_) (a' := ?_) #[true, true, true, true, true, true, true, true, true, true, false, false, false, false, false, false, false, false] rfl rfl (by kernel_rfl) (fun _ _ _ h => h) (Or.inl ⟨by rfl, ?_⟩) ?_ ?_
        rotate_left
        · intro w'
          go_simp
          with_reducible rfl
        rotate_left
        · simp only [Act.put, List.setIfInBounds_toArray, List.set_cons_zero, List.set_cons_succ]
          rfl
        refine take_ (i := 10) (N := some 77) (v := ?_) (a' := ?_) #[true, true, true, true, true, true, true, true, true, true, true, false, false, false, false, false, false, false] rfl rfl (by kernel_rfl) (fun _ _ _ h => h) (Or.inl ⟨by rfl, ?_⟩) hHeld ?_ ?_
        rotate_left
        · rintro w' ⟨s0, s1⟩
          go_simp
          with_reducible rfl
        rotate_left
        · simp only [Act.put, List.setIfInBounds_toArray, List.set_cons_zero, List.set_cons_succ]
          rfl
        refine pure_ (i := 11) (N := some 78) (v := ?_) (a' := ?_) #[true, true, true, true, true, true, true, true, true, true, true, true, false, false, false, false, false, false] rfl rfl (by kernel_rfl) (fun _ _ _ h => h) (Or.inl ⟨by rfl, ?_⟩) ?_ ?_
        rotate_left
        · intro w'
          go_simp
          with_reducible rfl
        rotate_left
        · simp only [Act.put, List.setIfInBounds_toArray, List.set_cons_zero, List.set_cons_succ]
          rfl
        refine pure_ (i := 12) (N := some 79) (v := .int .i64 m4) (a' := ?_) #[true, true, true, true, true, true, true, true, true, true, true, true, true, false, false, false, false, false] rfl rfl (by kernel_rfl) (fun _ _ _ h => h) (Or.inl ⟨by rfl, ?_⟩) ?_ ?_
        · intro w'
          rw [HM4.out]
          go_simp
        rotate_left
        · simp only [Act.put, List.setIfInBounds_toArray, List.set_cons_zero, List.set_cons_succ]
          rfl
        refine pure_ (i := 13) (N := some 80) (v := ?_) (a' := ?_) #[true, true, true, true, true, true, true, true, true, true, true, true, true, true, false, false, false, false] rfl rfl (by kernel_rfl) (fun _ _ _ h => h) (Or.inl ⟨by rfl, ?_⟩) ?_ ?_
        rotate_left
        · intro w'
          go_simp
          with_reducible rfl
        rotate_left
        · simp only [Act.put, List.setIfInBounds_toArray, List.set_cons_zero, List.set_cons_succ]
          rfl
        refine pure_ (i := 14) (N := some 81) (v := ?_) (a' := ?_) #[true, true, true, true, true, true, true, true, true, true, true, true, true, true, true, false, false, false] rfl rfl (by kernel_rfl) (fun _ _ _ h => h) (Or.inl ⟨by rfl, ?_⟩) ?_ ?_
        rotate_left
        · intro w'
          go_simp
          with_reducible rfl
        rotate_left
        · simp only [Act.put, List.setIfInBounds_toArray, List.set_cons_zero, List.set_cons_succ]
          rfl
        refine last_ (i := 15) (N := none) #[true, true, true, true, true, true, true, true, true, true, true, true, true, true, true, true, false, false] rfl rfl (by kernel_rfl) (by decide) (fun K hK => ?_)
        refine skip_ (by rfl) rfl (store_exec rfl (eval_of rfl) (eval_of rfl) HST1.out) (hK.out _ _ ?_)
        clear hK
        refine pure_ (i := 16) (N := some 82) (v := ?_) (a' := ?_) #[true, true, true, true, true, true, true, true, true, true, true, true, true, true, true, true, true, false] rfl rfl (by kernel_rfl) (fun _ _ _ h => h) (Or.inl ⟨by rfl, ?_⟩) ?_ ?_
        rotate_left
        · intro w'
          go_simp
          with_reducible rfl
        rotate_left
        · simp only [Act.put, List.setIfInBounds_toArray, List.set_cons_zero, List.set_cons_succ]
          rfl
        refine last_ (i := 17) (N := none) #[true, true, true, true, true, true, true, true, true, true, true, true, true, true, true, true, true, true] rfl rfl (by kernel_rfl) (by decide) (fun K hK => ?_)
        refine skip_ (by rfl) rfl (store_exec rfl (eval_of rfl) (eval_of rfl) HST2.out) (hK.out _ _ ?_)
        clear hK
        refine done_ (by kernel_rfl) ?_
        generalize (wX.drew.setCells pb2 3 [.slice v.A3 m3.toNat v.c3]).setCells pb2 4 [.slice v.A4 m4.toNat v.c4] = wZ at *
        clear hHeld HBX HBQ HB1 HST1 HST2 HFR
        have HBX := Lib.hid HB2.out
        have HFR := Lib.hid HFR2.out
        clear HB2 HFR2
        have hb0 := HBX.out.cell 0
        have hb1 := HBX.out.cell 1
        have hb2 := HBX.out.cell 2
        have hb3 := HBX.out.cell 3
        have hb4 := HBX.out.cell 4
        have hpar := HFR.out.blk HLT.out.par (fun e => by have := HPB.out; omega)
        have hres := HFR.out.blk HLT.out.res (fun e => by have := HPB.out; omega)
        have hq0 := hpar.cell 0
        have hr0 := hres.cell 0
        have hf0 := hpar.free ⟨w.heap.size, 0, none⟩ rfl
        have hg0 := hres.free ⟨w.heap.size + 1, 0, none⟩ rfl
        have hq1 := hpar.cell 1
        have hr1 := hres.cell 1
        have hf1 := hpar.free ⟨w.heap.size, 1, none⟩ rfl
        have hg1 := hres.free ⟨w.heap.size + 1, 1, none⟩ rfl
        have hq2 := hpar.cell 2
        have hr2 := hres.cell 2
        have hf2 := hpar.free ⟨w.heap.size, 2, none⟩ rfl
        have hg2 := hres.free ⟨w.heap.size + 1, 2, none⟩ rfl
        have hq3 := hpar.cell 3
        have hr3 := hres.cell 3
        have hf3 := hpar.free ⟨w.heap.size, 3, none⟩ rfl
        have hg3 := hres.free ⟨w.heap.size + 1, 3, none⟩ rfl
        have hq4 := hpar.cell 4
        have hr4 := hres.cell 4
        have hf4 := hpar.free ⟨w.heap.size, 4, none⟩ rfl
        have hg4 := hres.free ⟨w.heap.size + 1, 4, none⟩ rfl
        have hq5 := hpar.cell 5
        have hr5 := hres.cell 5
        have hf5 := hpar.free ⟨w.heap.size, 5, none⟩ rfl
        have hg5 := hres.free ⟨w.heap.size + 1, 5, none⟩ rfl
        have hq6 := hpar.cell 6
        have hr6 := hres.cell 6
        have hf6 := hpar.free ⟨w.heap.size, 6, none⟩ rfl
        have hg6 := hres.free ⟨w.heap.size + 1, 6, none⟩ rfl
        have hq7 := hpar.cell 7
        have hr7 := hres.cell 7
        have hf7 := hpar.free ⟨w.heap.size, 7, none⟩ rfl
        have hg7 := hres.free ⟨w.heap.size + 1, 7, none⟩ rfl
        simp only [List.getElem?_cons_zero, List.getElem?_cons_succ] at hb0 hb1 hb2 hb3 hb4 hq0 hr0 hq1 hr1 hq2 hr2 hq3 hr3 hq4 hr4 hq5 hr5 hq6 hr6 hq7 hr7
        have HPAR := Lib.hid hpar
        have HRES := Lib.hid hres
        clear hpar hres
        have HBLK := Lib.hid (fun wz e => less_last HPAR.out HRES.out (Nat.succ_ne_self _) (.slice A0' j c0') (.slice v.A1 d.infos.length v.c1) (.slice v.A2 d.marks.length v.c2) (.slice v.A3 m3.toNat v.c3) (.slice v.A4 m4.toNat v.c4) wz e)
        have HFIN := Lib.hid (fun wz (hf : Fr _ wz _) => less_post (wz := wz) (n1 := d.infos.length) (n2 := d.marks.length) (l' := l') (A := A) (c := c) (N := N) (M := M) HV.out HLT.out HJL.out hlc0 HC0.out (((HFR.out.mono (fun k _ hk => .inl (hk.trans HPB.out))).trans (hf.mono (S' := fun k => k = w.heap.size + 1 + 1 ∨ k = w.heap.size ∨ k = w.heap.size + 1) (fun _ _ h => .inr h)) (fun _ _ => id))) (by simp [lessD, hcut]) (by simp [lessD, hcut]) (HMT3.out) (HMT4.out))
        clear HPAR HRES HBX HFR HLT HC0 HMT1 HMT2 HMT3 HMT4 HM1 HM2 HM3 HM4 HJL
        go_wp2
        (try simp only [Exit.inBlock, Exit.then])
        refine bodyPost_end (results_cell_row rfl _ _ (w.heap.size + 1) TCA _ (0, 0) _ rfl (HBLK.out _ rfl).1 Try.underlying46 rfl csize) rfl ?_
        exact HQ'.out _ _ (HFIN.out _ (HBLK.out _ rfl).2)
end Go.Proofs.Ytphhdmopfmelbaa

/- larchlaw12: fixed. -/
namespace Go.Proofs.Ytphhdmopfmelbaa
open Go.RowKit Go.Proofs.YtphhdmopfmelbaaW.PrintWords Go.Proofs.YtphhdmopfmelbaaW.PrintLast
set_option linter.unusedVariables false
set_option linter.unusedSimpArgs false

theorem below_allocs (os : List Obj) (w : World) : Below w.heap.size w (os.foldl World.alloc w) := by
  induction os generalizing w with
  | nil => exact Below.refl _ _
  | cons o os ih => exact ((Below.refl w.heap.size w).alloc (Nat.le_refl _) o).trans ((ih (w.alloc o)).mono (by simp))
theorem blk_allocs (os : List Obj) (w : World) (i : Nat) (T : Nat) (xs : List Value) (h : os[i]? = some (.cells xs.toArray T)) : Blk (os.foldl World.alloc w) (w.heap.size + i) T xs := by
  induction os generalizing w i with
  | nil => simp at h
  | cons o os ih =>
    cases i with
    | zero =>
      simp only [List.getElem?_cons_zero, Option.some.injEq] at h
      subst h
      exact (Fr.of_below0 (S := fun _ => False) (below_allocs os _)).blk (Blk.new w T xs) id
    | succ i =>
      have := ih (w.alloc o) i (by simpa using h)
      rw [World.size_alloc] at this
      rwa [show w.heap.size + (i + 1) = w.heap.size + 1 + i by omega]
theorem C_of_blk {α : Type} {enc : α → Value} {h1 : ∀ x, (enc x).oneCell' = true} {w : World} {b T : Nat} {xs : List α} (h : Blk w b T (xs.map enc)) (hl : xs.length ≤ 9223372036854775807) : (Kd.scalar enc h1).C w (some ⟨b, 0, none⟩) xs.length xs := by
  refine ⟨rfl, hl, fun _ => ⟨_, rfl, fun j p hp => ⟨[enc p], rfl, rfl, fun i u hu => ?_⟩⟩⟩
  cases i with
  | zero =>
    simp only [List.getElem?_cons_zero, Option.some.injEq] at hu
    subst hu
    rw [Go.Proofs.YtphhdmopfmelbaaW.PrintWords.add_plain, h.cell]
    simp [Kd.scalar, hp]
  | succ i => simp at hu
theorem CRow_of_blk {w : World} {b T : Nat} {us : List Value} {rows : List (List Int)} (h : Blk w b T us) (hl : us.length = rows.length) (hr : ∀ (i : Nat) (u : Value) (r : List Int), us[i]? = some u → rows[i]? = some r → ∃ A c, u = .slice A r.length c ∧ r.length ≤ c ∧ KInt.C w A r.length r) (hs : rows.length ≤ 9223372036854775807) :
    KRow.C w (some ⟨b, 0, none⟩) rows.length rows := by
  refine ⟨rfl, hs, fun _ => ⟨_, rfl, fun j p hp => ?_⟩⟩
  have hj := (List.getElem?_eq_some_iff.1 hp).1
  have hu := List.getElem?_eq_getElem (show j < us.length by omega)
  obtain ⟨A, c, e, k, hC⟩ := hr j _ p hu hp
  refine ⟨[us[j]], rfl, ⟨A, c, by rw [e], k, hC⟩, fun i u hu2 => ?_⟩
  cases i with
  | zero =>
    simp only [List.getElem?_cons_zero, Option.some.injEq] at hu2
    subst hu2
    rw [Go.Proofs.YtphhdmopfmelbaaW.PrintWords.add_plain, h.cell]
    have e : j * KRow.sz + 0 = j := by show j * 1 + 0 = j; omega
    rw [e]
    exact hu
  | succ i => simp at hu2

def fixD : WD := ⟨[[1], []], [-1, 0], [false, false], [0], [false]⟩
def fixL : List ActD := [⟨1, 0, 0, 0, 0⟩, ⟨2, 0, 0, 1, -1⟩, ⟨3, 1, 0, 0, 0⟩, ⟨4, 0, 0, -1, 0⟩, ⟨3, 0, 0, 0, 0⟩, ⟨8, 0, 0, 0, 0⟩]
theorem fix_run : runD fixD fixL = ([1, 1, 0, 1, 0, 0], ⟨[[-1], []], [0, 0], [false, false], [1], [false]⟩) := by rfl
theorem fix_kinds : kinds fixL = [1, 5, 1, 5, 1, 2] := by rfl
theorem lit_row (W : World) (T : Nat) (xs : List Int) : Row1 (W.alloc (.cells (xs.map (Value.int .i64)).toArray T)) (some ⟨W.heap.size, 0, none⟩) xs.length (xs.map (Value.int .i64)) := by
  have := Row1.of_blk (rest := []) (us := xs.map (Value.int .i64)) (by rw [List.append_nil]; exact Blk.new W T _)
  simpa using this
theorem same_ints' (A : Option Addr) (c n : Nat) (xs : List Int) (A' : Option Addr) (c' : Nat) (w : World) (hn : xs.length = n) (hl : n ≤ 1000000000000000) (hr : Row1 w A n (xs.map (Value.int .i64))) (hr' : Row1 w A' n (xs.map (Value.int .i64))) :
    Calls Try.prog 21 #[.slice A n c, .slice A' n c'] w fun e w' => e = .returned (.bool true) ∧ ∃ m, w' = w.drewN m := by
  subst hn
  exact same_ints A c xs A' c' w hr hr' hl
theorem lit_row' (W : World) (T n : Nat) (cs : Array Value) (us : List Value) (m : Nat) (h : cs = us.toArray) (hn : us.length = n) : Row1 ((W.alloc (.cells cs T)).drewN m) (some ⟨W.heap.size, 0, none⟩) n us := by
  subst h hn
  have := Row1.of_blk (w := W.alloc (.cells us.toArray T)) (rest := []) (us := us) (by rw [List.append_nil]; exact Blk.new W T _)
  exact this.below (pw_below_drewN (Below.refl _ _) m)
/-- SameInts of a row and a list that is written out. -/
theorem same_lit (P : World) (s n : Nat) (cs : Array Value) (xs : List Int) (A : Option Addr) (c : Nat) (hs : P.heap.size = s) (hcs : cs = (xs.map (Value.int .i64)).toArray) (hn : xs.length = n) (hl : n ≤ 1000000000000000) (hr : Row1 P A n (xs.map (Value.int .i64))) :
    Calls Try.prog 21 #[.slice A n c, .slice (some ⟨s, 0, none⟩) n n] (P.alloc (.cells cs TII)) fun e w' => e = .returned (.bool true) ∧ Below P.heap.size P w' := by
  subst hs
  have hb := (Below.refl P.heap.size P).alloc (Nat.le_refl _) (.cells cs TII)
  refine (same_ints' A c n xs _ _ _ hn hl (hr.below hb) (lit_row' P TII n cs _ 0 hcs (by simpa using hn))).mono ?_
  rintro e w' ⟨rfl, m, rfl⟩
  exact ⟨rfl, pw_below_drewN hb m⟩
theorem fix_E : playE fixD fixL = 0 := by
  have h1 : limitsD fixD = 0 := by unfold limitsD; rw [if_neg (by simp [fixD])]
  have h2 : formD fixD = 0 := by
    unfold formD
    rw [if_pos]
    refine ⟨rfl, rfl, rfl, fun i hi => ?_, by decide⟩
    have : i = 0 ∨ i = 1 := by simp [fixD] at hi; omega
    rcases this with rfl | rfl <;> exact ⟨by decide, by decide⟩
  unfold playE
  rw [if_neg (by rw [h1]; simp [fixL]), if_neg (by rw [h2]; simp)]
  decide
abbrev fixOs (h : Nat) : List Obj := [.cells #[.int .i64 1] 3, .cells #[] 3, .cells #[.slice (some ⟨h, 0, none⟩) 1 1, .slice (some ⟨h + 1, 0, none⟩) 0 0] 23, .cells #[.int .i64 (-1), .int .i64 0] 3, .cells #[.bool false, .bool false] 4, .cells #[.int .i64 0] 3, .cells #[.bool false] 4,
  .cells #[.slice (some ⟨h + 1 + 1, 0, none⟩) 2 2, .slice (some ⟨h + 1 + 1 + 1, 0, none⟩) 2 2, .slice (some ⟨h + 1 + 1 + 1 + 1, 0, none⟩) 2 2, .slice (some ⟨h + 1 + 1 + 1 + 1 + 1, 0, none⟩) 1 1, .slice (some ⟨h + 1 + 1 + 1 + 1 + 1 + 1, 0, none⟩) 1 1] TWD,
  .cells #[.int .i64 1, .int .i64 0, .int .i64 0, .int .i64 0, .int .i64 0, .int .i64 2, .int .i64 0, .int .i64 0, .int .i64 1, .int .i64 (-1), .int .i64 3, .int .i64 1, .int .i64 0, .int .i64 0, .int .i64 0, .int .i64 4, .int .i64 0, .int .i64 0, .int .i64 (-1), .int .i64 0, .int .i64 3, .int .i64 0, .int .i64 0, .int .i64 0, .int .i64 0, .int .i64 8, .int .i64 0, .int .i64 0, .int .i64 0, .int .i64 0] TAC]
abbrev fixV (h : Nat) : WV := ⟨some ⟨h + 1 + 1, 0, none⟩, 2, some ⟨h + 1 + 1 + 1, 0, none⟩, 2, some ⟨h + 1 + 1 + 1 + 1, 0, none⟩, 2, some ⟨h + 1 + 1 + 1 + 1 + 1, 0, none⟩, 1, some ⟨h + 1 + 1 + 1 + 1 + 1 + 1, 0, none⟩, 1⟩
theorem fix_reads (w : World) : (fixV w.heap.size).Reads ((fixOs w.heap.size).foldl World.alloc w) fixD := by
  have b := fun i T xs h => blk_allocs (fixOs w.heap.size) w i T xs h
  have b0 := b 0 _ _ rfl
  have b1 := b 1 _ _ rfl
  refine ⟨CRow_of_blk (rows := [[1], []]) (b 2 _ _ rfl) rfl ?_ (by simp), Nat.le_refl _, C_of_blk (xs := [-1, 0]) (b 3 _ _ rfl) (by simp), Nat.le_refl _, C_of_blk (xs := [false, false]) (b 4 _ _ rfl) (by simp), Nat.le_refl _, C_of_blk (xs := [0]) (b 5 _ _ rfl) (by simp), Nat.le_refl _, C_of_blk (xs := [false]) (b 6 _ _ rfl) (by simp), Nat.le_refl _⟩
  intro i u r hu hr
  match i, hu, hr with
  | 0, hu, hr =>
    simp at hu hr
    subst hu hr
    exact ⟨_, _, rfl, Nat.le_refl _, C_of_blk (xs := [1]) b0 (by simp)⟩
  | 1, hu, hr =>
    simp at hu hr
    subst hu hr
    exact ⟨_, _, rfl, Nat.le_refl _, C_of_blk (xs := []) b1 (by simp)⟩
  | i + 2, hu, hr => simp at hu
theorem fix_acts (w : World) : ActsAt ((fixOs w.heap.size).foldl World.alloc w) (some ⟨w.heap.size + 1 + 1 + 1 + 1 + 1 + 1 + 1 + 1, 0, none⟩) fixL := fun _ => ⟨_, _, rfl, fun j x hx i u hu => by
  have b := blk_allocs (fixOs w.heap.size) w 8 _ _ rfl
  refine (b.cell _).trans ?_
  match j, hx with
  | 0, hx => simp [fixL] at hx; subst hx; match i, hu with
    | 0, hu | 1, hu | 2, hu | 3, hu | 4, hu => exact hu
    | i + 5, hu => simp at hu
  | 1, hx => simp [fixL] at hx; subst hx; match i, hu with
    | 0, hu | 1, hu | 2, hu | 3, hu | 4, hu => exact hu
    | i + 5, hu => simp at hu
  | 2, hx => simp [fixL] at hx; subst hx; match i, hu with
    | 0, hu | 1, hu | 2, hu | 3, hu | 4, hu => exact hu
    | i + 5, hu => simp at hu
  | 3, hx => simp [fixL] at hx; subst hx; match i, hu with
    | 0, hu | 1, hu | 2, hu | 3, hu | 4, hu => exact hu
    | i + 5, hu => simp at hu
  | 4, hx => simp [fixL] at hx; subst hx; match i, hu with
    | 0, hu | 1, hu | 2, hu | 3, hu | 4, hu => exact hu
    | i + 5, hu => simp at hu
  | 5, hx => simp [fixL] at hx; subst hx; match i, hu with
    | 0, hu | 1, hu | 2, hu | 3, hu | 4, hu => exact hu
    | i + 5, hu => simp at hu
  | j + 6, hx => simp [fixL] at hx⟩

set_option maxHeartbeats 1000000 in
set_option maxRecDepth 100000 in
theorem law_fixed (w : World) : Calls Try.prog 15 #[] w fun e w' => e = .returned (.bool true) ∧ Below w.heap.size w w' := by
  refine calls_hide fun Q HQ => ?_
  have HQ' := Lib.hid HQ
  have HB := Lib.hid (below_allocs (fixOs w.heap.size) w)
  have HP := Lib.hid (rec_play _ (fixV w.heap.size) fixD (fix_reads w) (by simp [fixD]) (by simp [fixD]) (by simp [fixD]) _ 6 fixL (fix_acts w) (by simp [fixL]))
  clear HQ
  go_enter Try.func15, Try.ntmps15
  go_wp2_with fail
  refine HP.out.mono ?_
  rintro e w1 ⟨hbel, hpp⟩
  rcases hpp with ⟨h, _⟩ | ⟨_, ov, fv, iv, mv, sv, zv, kv, bs, rfl, ho⟩
  · exact absurd fix_E h
  have hout := ho.out
  have hwld := ho.wld
  have hkin := ho.kin
  rw [fix_run] at hout hwld
  rw [fix_kinds] at hkin
  obtain ⟨v', rfl, rfl, rfl, rfl, rfl, hrd⟩ := hwld.reads
  change w1.ownsRow _ TII 1 ov 6 _ at hout
  change w1.ownsRow _ TII 1 kv 6 _ at hkin
  obtain ⟨Ao, co, rfl, hro, _⟩ := owns_slice hout
  obtain ⟨Ak, ck, rfl, hrk, _⟩ := owns_slice hkin
  have HBE := Lib.hid (HB.out.trans (hbel.mono HB.out.size))
  have HRO := Lib.hid (fun w' (hb : Below w1.heap.size w1 w') => hro.below hb)
  have HRK := Lib.hid (fun w' (hb : Below w1.heap.size w1 w') => hrk.below hb)
  have HRD := Lib.hid (fun w' (hb : Below w1.heap.size w1 w') => hrd.below hb)
  clear hbel ho hout hwld hkin hro hrk hrd HB HP
  go_wp2_with fail
  have hX := Blk.new w1 TWD [.slice v'.A0 2 v'.c0, .slice v'.A1 2 v'.c1, .slice v'.A2 2 v'.c2, .slice v'.A3 1 v'.c3, .slice v'.A4 1 v'.c4]
  have hBX := (Below.refl w1.heap.size w1).alloc (Nat.le_refl _) (.cells #[.slice v'.A0 2 v'.c0, .slice v'.A1 2 v'.c1, .slice v'.A2 2 v'.c2, .slice v'.A3 1 v'.c3, .slice v'.A4 1 v'.c4] TWD)
  refine (same_lit (w1.alloc (.cells #[.slice v'.A0 2 v'.c0, .slice v'.A1 2 v'.c1, .slice v'.A2 2 v'.c2, .slice v'.A3 1 v'.c3, .slice v'.A4 1 v'.c4] TWD)) (w1.heap.size + 1) 6 _ [1, 1, 0, 1, 0, 0] _ _ (by simp) rfl rfl (by decide) (HRO.out _ hBX)).mono ?_
  rintro e w2 ⟨rfl, hbl⟩
  have HX := Lib.hid ((Fr.of_below0 (S := fun _ => False) hbl).blk hX id)
  have HB := Lib.hid (hBX.trans (hbl.mono (by simp)))
  clear hX hBX hbl
  go_wp2_with fail
  refine (same_lit w2 _ 6 _ [1, 5, 1, 5, 1, 2] _ _ rfl rfl rfl (by decide) (HRK.out _ HB.out)).mono ?_
  rintro e w3 ⟨rfl, hbl⟩
  have HX1 := Lib.hid ((Fr.of_below0 (S := fun _ => False) hbl).blk HX.out id)
  have HB1 := Lib.hid (HB.out.trans (hbl.mono HB.out.size))
  clear HX HB hbl
  have hc0 := HX1.out.cell 0
  simp only [List.getElem?_cons_zero] at hc0
  obtain ⟨ad, hA, A0, c0, hr0, _, hrow⟩ := row_at (HRD.out _ HB1.out).h0 (j := 0) (by decide)
  have HROW := Lib.hid (row1_of_C hrow)
  obtain ⟨A0', c0', A1', c1', A2', c2', A3', c3', A4', c4'⟩ := v'
  simp only at hA
  subst hA
  have hr1 : w3.cell? ad = some (.slice A0 1 c0) := by simpa [Addr.add] using hr0
  clear hr0 hrow
  go_wp2_with fail
  refine (same_lit w3 _ 1 _ [-1] _ _ rfl rfl rfl (by decide) HROW.out).mono ?_
  rintro e w4 ⟨rfl, hbl⟩
  have HX2 := Lib.hid ((Fr.of_below0 (S := fun _ => False) hbl).blk HX1.out id)
  have HB2 := Lib.hid (HB1.out.trans (hbl.mono HB1.out.size))
  clear HX1 HB1 hbl hc0 HROW hr1
  have hc1 := HX2.out.cell 1
  simp only [List.getElem?_cons_zero, List.getElem?_cons_succ] at hc1
  go_wp2_with fail
  refine (same_lit w4 _ 2 _ [0, 0] _ _ rfl rfl rfl (by decide) (row1_of_C (HRD.out _ HB2.out).h1)).mono ?_
  rintro e w5 ⟨rfl, hbl⟩
  have HX3 := Lib.hid ((Fr.of_below0 (S := fun _ => False) hbl).blk HX2.out id)
  have HB3 := Lib.hid (HB2.out.trans (hbl.mono HB2.out.size))
  clear HX2 HB2 hbl hc1
  have hc3 := HX3.out.cell 3
  simp only [List.getElem?_cons_zero, List.getElem?_cons_succ] at hc3
  go_wp2_with fail
  refine (same_lit w5 _ 1 _ [1] _ _ rfl rfl rfl (by decide) (row1_of_C (HRD.out _ HB3.out).h3)).mono ?_
  rintro e w6 ⟨rfl, hbl⟩
  have HF := Lib.hid (HBE.out.trans ((HB3.out.trans (hbl.mono HB3.out.size)).mono HBE.out.size))
  clear HX3 HB3 hbl hc3
  go_wp2
  exact HQ'.out _ _ ⟨rfl, HF.out⟩
end Go.Proofs.Ytphhdmopfmelbaa

/- larchlaw12: the size of a case; parts of its acts. No walk. -/
namespace Go.Proofs.Ytphhdmopfmelbaa
open Go.RowKit Go.Proofs.YtphhdmopfmelbaaW.PrintWords Go.Proofs.YtphhdmopfmelbaaW.PrintLast
set_option linter.unusedVariables false
set_option linter.unusedSimpArgs false

abbrev CaseLen (d : WD) (l : List ActD) : Prop := d.fields.length ≤ 1000000000000000 ∧ d.infos.length * 8 ≤ 140737488351232 ∧ d.marks.length ≤ 140737488351232 ∧ d.states.length ≤ 1000000000000000 ∧ d.frozen.length ≤ 1000000000000000 ∧ l.length ≤ 1000000000000000
theorem less_len {d : WD} {l : List ActD} (h : CaseLen d l) (hr : ∀ r ∈ d.fields, r.length ≤ 1000000000000000) : ((lessD d).fields.length ≤ 1000000000 ∧ (lessD d).infos.length * 8 ≤ 140737488351232 ∧ (lessD d).marks.length ≤ 140737488351232 ∧ (lessD d).states.length * 8 ≤ 140737488351232 ∧ (lessD d).frozen.length ≤ 140737488351232) ∧ (∀ r ∈ (lessD d).fields, r.length * 8 ≤ 140737488351232) ∧
    (lessD d).fields.length < 100000000 ∧ (lessD d).states.length < 100000000 ∧ (∀ r ∈ (lessD d).fields, r.length < 100000000) ∧ (lessD d).infos.length ≤ 1000000000000000 := by
  obtain ⟨h0, h1, h2, h3, h4, h5⟩ := h
  have e0 : (lessD d).fields.length ≤ 70 := by simp [lessD]; omega
  have e3 : (lessD d).states.length ≤ 70 := by simp [lessD]; omega
  have e4 : (lessD d).frozen.length ≤ 70 := by simp [lessD]; omega
  have e1 : (lessD d).infos.length ≤ d.infos.length := by
    unfold lessD
    split
    · exact List.length_take_le' 70 d.infos
    · exact Nat.le_refl _
  have e2 : (lessD d).marks.length ≤ d.marks.length := by
    unfold lessD
    split
    · exact List.length_take_le' 70 d.marks
    · exact Nat.le_refl _
  have er : ∀ r ∈ (lessD d).fields, r.length ≤ 70 := fun r hr => by
    simp only [lessD, List.mem_map] at hr
    obtain ⟨q, _, rfl⟩ := hr
    simp; omega
  exact ⟨⟨by omega, by omega, by omega, by omega, by omega⟩, fun r hr => by have := er r hr; omega, by omega, by omega, fun r hr => by have := er r hr; omega, by omega⟩

theorem acts_take {w : World} {A : Option Addr} {l : List ActD} (h : ActsAt w A l) (k : Nat) : ActsAt w A (l.take k) := fun hl => by
  obtain ⟨b, o, e, hc⟩ := h (by simp at hl; omega)
  exact ⟨b, o, e, fun j x hx i u hu => hc j x (by rw [List.getElem?_take] at hx; split at hx; exact hx; cases hx) i u hu⟩

theorem acts_drop {w : World} {A : Option Addr} {l : List ActD} (h : ActsAt w A l) (k c : Nat) (hc : l.length ≤ c) : ActsAt w (if c = k then A else A.map (fun a => a.add (k * 5))) (l.drop k) := fun hl => by
  have hk : k < l.length := by simp at hl; omega
  obtain ⟨b, o, e, hx⟩ := h (by omega)
  rw [if_neg (by omega)]
  refine ⟨b, o + k * 5, by rw [e, Option.map_some, Addr.add_lit], fun j x hj i u hu => ?_⟩
  rw [List.getElem?_drop] at hj
  have := hx (k + j) x hj i u hu
  rwa [show o + (k + j) * 5 + i = o + k * 5 + j * 5 + i by omega] at this

end Go.Proofs.Ytphhdmopfmelbaa

/- larchlaw12: the program's Play on a world and acts of the statement: what goes on in one statement. -/
namespace Go.Proofs.Ytphhdmopfmelbaa
open Go.RowKit Go.Proofs.YtphhdmopfmelbaaW.PrintWords Go.Proofs.YtphhdmopfmelbaaW.PrintLast
set_option linter.unusedVariables false
set_option linter.unusedSimpArgs false

/-- Play's good answer. -/
def PlayV (B : Nat) (d : WD) (l : List ActD) (v : Value) (w : World) : Prop := ∃ ov kv fv iv mv sv zv bs, v = .tuple #[ov, .agg #[fv, iv, mv, sv, zv], kv, .int .i64 0] ∧ PlayOut B d l ov fv iv mv sv zv kv bs w
theorem PlayOut.fr {B : Nat} {d : WD} {l : List ActD} {ov fv iv mv sv zv kv : Value} {bs : List Value} {w w' : World} (h : PlayOut B d l ov fv iv mv sv zv kv bs w) {S : Nat → Prop} (hf : Fr w w' S) (hS : ∀ k, S k → ∃ T ys, Blk w k T ys ∧ T ≠ TRI ∧ T ≠ TII ∧ T ≠ TBB) : PlayOut B d l ov fv iv mv sv zv kv bs w' := by
  have key : ∀ {n : Nat} {v : Value} {us : List Value}, w.ownsRow B TII 1 v n us → w'.ownsRow B TII 1 v n us := fun ho => owns_fr ho hf (fun k hk hs => by
    obtain ⟨c, hc⟩ := owns_typed ho k hk
    obtain ⟨T, ys, hb, _, h2, _⟩ := hS k hs
    exact h2 (hb.inj hc).1)
  exact ⟨key h.out, h.wld.other hf hS, key h.kin, h.d1, h.d2, h.d3⟩
theorem PlayOut.below {B : Nat} {d : WD} {l : List ActD} {ov fv iv mv sv zv kv : Value} {bs : List Value} {w w' : World} (h : PlayOut B d l ov fv iv mv sv zv kv bs w) (hb : Below w.heap.size w w') : PlayOut B d l ov fv iv mv sv zv kv bs w' := h.fr (S := fun _ => False) (Fr.of_below0 hb) (fun _ h => h.elim)
theorem PlayV.below {B : Nat} {d : WD} {l : List ActD} {v : Value} {w w' : World} (h : PlayV B d l v w) (hb : Below w.heap.size w w') : PlayV B d l v w' := by
  obtain ⟨ov, kv, fv, iv, mv, sv, zv, bs, e, ho⟩ := h
  exact ⟨ov, kv, fv, iv, mv, sv, zv, bs, e, ho.below hb⟩
theorem PlayV.store {B : Nat} {d : WD} {l : List ActD} {v : Value} {w w' : World} (h : PlayV B d l v w) {g T : Nat} {ys : List Value} (hg : Blk w g T ys) (h1 : T ≠ TRI) (h2 : T ≠ TII) (h3 : T ≠ TBB) (hf : Fr w w' (fun k => k = g)) : PlayV B d l v w' := by
  obtain ⟨ov, kv, fv, iv, mv, sv, zv, bs, e, ho⟩ := h
  exact ⟨ov, kv, fv, iv, mv, sv, zv, bs, e, ho.fr hf (fun k hk => ⟨T, ys, hk ▸ hg, h1, h2, h3⟩)⟩
theorem play_lower {B B' : Nat} {d : WD} {l : List ActD} {ov fv iv mv sv zv kv : Value} {bs : List Value} {w : World} (h : PlayOut B' d l ov fv iv mv sv zv kv bs w) (hB : B ≤ B') : PlayOut B d l ov fv iv mv sv zv kv bs w :=
  ⟨own_weaken h.out hB, h.wld.lower hB, own_weaken h.kin hB, h.d1, h.d2, h.d3⟩
theorem law_acts' (w : World) (A : Option Addr) (c n : Nat) (l : List ActD) (hn : l.length = n) (ha : ActsAt w A l) (hl : l.length ≤ 1000000000) :
    Calls Try.prog 19 #[.slice A n c] w fun e w' => ∃ v, e = .returned v ∧ w'.ownsRow w.heap.size TAC 5 v l.length (l.flatMap ActD.cells) ∧ Below w.heap.size w w' := by
  subst hn
  exact law_acts w A c l ha hl
/-- The refused answer. -/
abbrev refV (E : Int) : Value := .tuple #[nilV, nilW, nilV, .int .i64 E]
/-- What one Play has left: its world's block, its answers; the statement's own block. -/
structure Left1 (wB : World) (pb : Nat) (cs : List Value) (g B : Nat) (d : WD) (l : List ActD) (ov fv iv mv sv zv kv : Value) (bs : List Value) (w : World) : Prop where
  old : Below wB.heap.size wB w
  par : Blk w pb TCA cs
  box : Blk w g TWD [fv, iv, mv, sv, zv]
  out : PlayOut B d l ov fv iv mv sv zv kv bs w
  lo : wB.heap.size ≤ B
theorem Left1.below {wB : World} {pb : Nat} {cs : List Value} {g B : Nat} {d : WD} {l : List ActD} {ov fv iv mv sv zv kv : Value} {bs : List Value} {w w' : World} (h : Left1 wB pb cs g B d l ov fv iv mv sv zv kv bs w) (hb : Below w.heap.size w w') : Left1 wB pb cs g B d l ov fv iv mv sv zv kv bs w' :=
  ⟨h.old.trans (hb.mono h.old.size), (Fr.of_below0 (S := fun _ => False) hb).blk h.par id, (Fr.of_below0 (S := fun _ => False) hb).blk h.box id, h.out.below hb, h.lo⟩
/-- A tuple's part. -/
def tpart (k : Nat) : Value → Value
  | .tuple a => a.getD k undef
  | _ => undef
/-- The cells of a world's value. -/
def cellsW : Value → List Value
  | .agg a => a.toList
  | _ => []
theorem below_allocB {B : Nat} {w w' : World} (h : Below B w w') (hB : B ≤ w'.heap.size) (o : Obj) : Below B w (w'.alloc o) := h.alloc hB o
theorem below_alloc' {w w' : World} (h : Below w.heap.size w w') (o : Obj) : Below w.heap.size w (w'.alloc o) := h.alloc h.size o
/-- append of a row that is read to a row of one's own. -/
theorem run_append_row {P : Program} {w : World} (t ty e : TypeId) (z : Value) (bytes : Nat) (ht : P.underlying t = some (.slice e)) (hinfo : (P.info? e).map (fun i => (i.zero, i.size, i.bytes)) = some (some z, 1, bytes)) (hz : z.cells.size = 1) {base n : Nat} {v : Value} {xs : List Value} (hv : w.ownsRow base e 1 v n xs)
    {A : Option Addr} {m c : Nat} {us : List Value} (hr : Row1 w A m us) (h1 : ∀ u ∈ us, u.oneCell' = true) (h63 : n + m ≤ maxLen) (hb : (n + m) * bytes ≤ 140737488355328) (hbase : base ≤ w.heap.size) :
    ∃ v' w', (Builtin.append_ #[t, t] ty #[v, .slice A m c]).run P w = .ok v' w' ∧ w.grownBy w' v.ownBlock ∧ w'.ownsRow base e 1 v' (n + m) (xs ++ us) := by
  obtain ⟨i0, hi, hzz⟩ := Option.map_eq_some_iff.1 hinfo
  simp only [Prod.mk.injEq] at hzz
  obtain ⟨hz0, hz1, hz2⟩ := hzz
  rcases Nat.eq_zero_or_pos m with rfl | hm
  · have hus : us = [] := List.eq_nil_of_length_eq_zero hr.1
    subst hus
    refine ⟨v, w, ?_, ⟨rfl, rfl, rfl, Nat.le_refl _, fun _ _ _ => rfl⟩, by simpa using hv⟩
    rcases hv.2 with ⟨rfl, rfl⟩ | ⟨g, cap, cur, rfl, _, _, hnc, _⟩ <;> cases A <;>
      simp [Builtin.append_, run_underlying ht, sizeOf, typeInfo, hi, Builtin.lenOf, Builtin.firstCells, storeCells, loadCells, loadCellsFrom, hz1, Result.andThen, *]
  · obtain ⟨ad, rfl, hc⟩ := hr.2 hm
    obtain ⟨v', w', hrun, hown, hg, _, _⟩ := run_append_own_at (P := P) w base t ty e i0 z 1 bytes ht hi hz0 hz1 hz2 hz (by decide) v n xs hv ad m c us (by have := hr.1; omega) hc h1 h63 hb hbase
    exact ⟨v', w', hrun, hg, hown⟩
end Go.Proofs.Ytphhdmopfmelbaa
