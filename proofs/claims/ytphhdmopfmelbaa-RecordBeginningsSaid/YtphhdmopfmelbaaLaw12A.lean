/- larchlaw12: acts, world, ours. -/
import Derived.Test.YtphhdmopfmelbaaRef12D
namespace Go.Proofs.Ytphhdmopfmelbaa
open Go.RowKit Go.Proofs.YtphhdmopfmelbaaW.PrintWords Go.Proofs.YtphhdmopfmelbaaW.PrintLast
set_option linter.unusedVariables false
set_option linter.unusedSimpArgs false

theorem own_small {w : World} {B e n : Nat} {v : Value} {us : List Value} (h : w.ownsRow B e 1 v n us) : n ≤ 9223372036854775807 := by
  rcases h.2 with ⟨_, h0⟩ | ⟨g, cap, cur, _, _, _, hn, hc, _⟩
  · omega
  · simp only [maxLen] at hc; omega
/-- A row of the call's own as a row that is read. -/
theorem own_C {α : Type} {enc : α → Value} {h1 : ∀ x, (enc x).oneCell' = true} {w : World} {B e n : Nat} {v : Value} {xs : List α} (h : w.ownsRow B e 1 v n (xs.map enc)) : ∃ A c, v = .slice A xs.length c ∧ xs.length ≤ c ∧ (Kd.scalar enc h1).C w A xs.length xs := by
  have hn : xs.length = n := by have := h.1; simpa using this
  have hs := own_small h
  subst hn
  obtain ⟨A, c, e1, hr, hl⟩ := owns_slice h
  refine ⟨A, c, e1, hl, rfl, hs, fun hn => ?_⟩
  obtain ⟨ad, hA, hc⟩ := hr.2 hn
  refine ⟨ad, hA, fun j x hx => ⟨[enc x], rfl, rfl, fun i u hu => ?_⟩⟩
  cases i with
  | zero =>
    simp only [List.getElem?_cons_zero, Option.some.injEq] at hu
    subst hu
    simpa [Kd.scalar] using hc j (enc x) (by simp [hx])
  | succ i => simp at hu
/-- A world of one's own as a world that is read. -/
theorem OutW.reads {B : Nat} {d : WD} {fv iv mv sv zv : Value} {us : List Value} {w : World} (h : OutW B d fv iv mv sv zv us w) : ∃ v : WV, fv = .slice v.A0 d.fields.length v.c0 ∧ iv = .slice v.A1 d.infos.length v.c1 ∧ mv = .slice v.A2 d.marks.length v.c2 ∧ sv = .slice v.A3 d.states.length v.c3 ∧ zv = .slice v.A4 d.frozen.length v.c4 ∧ v.Reads w d := by
  obtain ⟨A0, c0, e0, r0, k0⟩ := owns_slice h.f
  obtain ⟨A1, c1, e1, k1, r1⟩ := own_C (h1 := fun _ => rfl) h.i
  obtain ⟨A2, c2, e2, k2, r2⟩ := own_C (h1 := fun _ => rfl) h.m
  obtain ⟨A3, c3, e3, k3, r3⟩ := own_C (h1 := fun _ => rfl) h.s
  obtain ⟨A4, c4, e4, k4, r4⟩ := own_C (h1 := fun _ => rfl) h.z
  refine ⟨⟨A0, c0, A1, c1, A2, c2, A3, c3, A4, c4⟩, e0, e1, e2, e3, e4, ⟨⟨rfl, own_small h.f, fun hn => ?_⟩, k0, r1, k1, r2, k2, r3, k3, r4, k4⟩⟩
  obtain ⟨ad, hA, hc⟩ := r0.2 hn
  refine ⟨ad, hA, fun j p hp => ?_⟩
  have hj := (List.getElem?_eq_some_iff.1 hp).1
  have hju : j < us.length := by rw [h.lb]; exact hj
  obtain ⟨A, c, e, k, r⟩ := own_C (h1 := fun _ => rfl) (h.inn j us[j] p (List.getElem?_eq_getElem hju) hp)
  refine ⟨[us[j]], rfl, ⟨A, c, by rw [e], k, r⟩, fun i u hu => ?_⟩
  cases i with
  | zero =>
    simp only [List.getElem?_cons_zero, Option.some.injEq] at hu
    subst hu
    have : ad.add (j * 1 + 0) = ad.add j := by rw [Nat.mul_one, Nat.add_zero]
    exact (congrArg w.cell? this).trans (hc j _ (List.getElem?_eq_getElem hju))
  | succ i => simp at hu

set_option maxHeartbeats 1000000 in
set_option maxRecDepth 100000 in
theorem law_world (w : World) (v : WV) (d : WD) (hv : v.Reads w d) (hl : d.fields.length ≤ 1000000000 ∧ d.infos.length * 8 ≤ 140737488351232 ∧ d.marks.length ≤ 140737488351232 ∧ d.states.length * 8 ≤ 140737488351232 ∧ d.frozen.length ≤ 140737488351232) (hr : ∀ r ∈ d.fields, r.length * 8 ≤ 140737488351232) :
    Calls Try.prog 18 #[v.val d] w fun e w' => ∃ v' : WV, e = .returned (v'.val d) ∧ v'.Reads w' d ∧ Below w.heap.size w w' := by
  refine calls_hide fun Q HQ => ?_
  have HQ' := Lib.hid HQ
  have hba := ((Below.refl w.heap.size w).alloc (Nat.le_refl _) (.cells (v.cells d).toArray TRW)).alloc (by simp) (.cells #[.slice none 0 0, .slice none 0 0, .slice none 0 0, .slice none 0 0, .slice none 0 0] TWD)
  have hb1 := (Blk.new w TRW (v.cells d)).alloc (.cells #[.slice none 0 0, .slice none 0 0, .slice none 0 0, .slice none 0 0, .slice none 0 0] TWD)
  have hb2 := Blk.new (w.alloc (.cells (v.cells d).toArray TRW)) TWD zero5
  rw [World.size_alloc] at hb2
  have HC := Lib.hid (ref_Copy _ v d (hv.below hba) hl hr)
  have HBA := Lib.hid hba
  have hc0 := hb1.cell 0
  have hc1 := hb1.cell 1
  have hc2 := hb1.cell 2
  have hc3 := hb1.cell 3
  have hc4 := hb1.cell 4
  simp only [List.getElem?_cons_zero, List.getElem?_cons_succ] at hc0 hc1 hc2 hc3 hc4
  have HB2 := Lib.hid (show Blk ((w.alloc (.cells (v.cells d).toArray TRW)).alloc (.cells #[.slice none 0 0, .slice none 0 0, .slice none 0 0, .slice none 0 0, .slice none 0 0] TWD)) (w.heap.size + 1) TWD zero5 from hb2)
  clear HQ hv hr hl hba hb1 hb2
  go_enter Try.func18, Try.ntmps18
  go_wp2_with fail
  generalize (w.alloc (.cells (v.cells d).toArray TRW)).alloc (.cells #[.slice none 0 0, .slice none 0 0, .slice none 0 0, .slice none 0 0, .slice none 0 0] TWD) = wA at *
  refine HC.out.mono ?_
  rintro e w1 ⟨fv, iv, mv, sv, zv, us, rfl, hout, hbel⟩
  obtain ⟨v', rfl, rfl, rfl, rfl, rfl, hrd⟩ := hout.reads
  have HO := Lib.hid hout
  have HB3 := Lib.hid ((Fr.of_below0 (S := fun _ => False) hbel).blk HB2.out id)
  have HBE := Lib.hid (HBA.out.trans (hbel.mono HBA.out.size))
  have HRD := Lib.hid hrd
  have HSZ := Lib.hid HBA.out.size
  clear hout hbel hrd HBA HB2 HC hc0 hc1 hc2 hc3 hc4
  have hb3 := HB3.out.alloc (.cells #[.slice v'.A0 d.fields.length v'.c0, .slice v'.A1 d.infos.length v'.c1, .slice v'.A2 d.marks.length v'.c2, .slice v'.A3 d.states.length v'.c3, .slice v'.A4 d.frozen.length v'.c4] TRW)
  have hr0 := hb3.cell 0
  have hr1 := hb3.cell 1
  have hr2 := hb3.cell 2
  have hr3 := hb3.cell 3
  have hr4 := hb3.cell 4
  have hf0 := hb3.free ⟨w.heap.size + 1, 0, none⟩ rfl
  have hf1 := hb3.free ⟨w.heap.size + 1, 1, none⟩ rfl
  have hf2 := hb3.free ⟨w.heap.size + 1, 2, none⟩ rfl
  have hf3 := hb3.free ⟨w.heap.size + 1, 3, none⟩ rfl
  have hf4 := hb3.free ⟨w.heap.size + 1, 4, none⟩ rfl
  simp only [List.getElem?_cons_zero, List.getElem?_cons_succ] at hr0 hr1 hr2 hr3 hr4
  have HBLK := Lib.hid (fun wz e => res_end hb3 (.slice v'.A0 d.fields.length v'.c0) (.slice v'.A1 d.infos.length v'.c1) (.slice v'.A2 d.marks.length v'.c2) (.slice v'.A3 d.states.length v'.c3) (.slice v'.A4 d.frozen.length v'.c4) wz e)
  have HEND := Lib.hid (show ∀ wz, Fr (w1.alloc (.cells #[.slice v'.A0 d.fields.length v'.c0, .slice v'.A1 d.infos.length v'.c1, .slice v'.A2 d.marks.length v'.c2, .slice v'.A3 d.states.length v'.c3, .slice v'.A4 d.frozen.length v'.c4] TRW)) wz (fun k => k = w.heap.size + 1) → v'.Reads wz d ∧ Below w.heap.size w wz from fun wz hf => by
    have h1 := HO.out.below ((Below.refl w1.heap.size w1).alloc (Nat.le_refl _) (.cells #[.slice v'.A0 d.fields.length v'.c0, .slice v'.A1 d.infos.length v'.c1, .slice v'.A2 d.marks.length v'.c2, .slice v'.A3 d.states.length v'.c3, .slice v'.A4 d.frozen.length v'.c4] TRW))
    have h2 := h1.other hf (fun k hk => ⟨TWD, _, hk ▸ hb3, by decide, by decide, by decide⟩)
    obtain ⟨v2, e0, e1, e2, e3, e4, hr⟩ := h2.reads
    obtain ⟨A0, c0, A1, c1, A2, c2, A3, c3, A4, c4⟩ := v2
    obtain ⟨A0', c0', A1', c1', A2', c2', A3', c3', A4', c4'⟩ := v'
    simp only [Value.slice.injEq, true_and] at e0 e1 e2 e3 e4
    obtain ⟨rfl, rfl⟩ := e0
    obtain ⟨rfl, rfl⟩ := e1
    obtain ⟨rfl, rfl⟩ := e2
    obtain ⟨rfl, rfl⟩ := e3
    obtain ⟨rfl, rfl⟩ := e4
    exact ⟨hr, (HBE.out.alloc HBE.out.size _).trans (hf.below (Nat.le_trans HBE.out.size (by simp)) (fun k hk => by rw [hk]; exact Nat.le_succ _))⟩)
  clear hb3
  go_wp2
  (try simp only [Exit.inBlock, Exit.then])
  refine bodyPost_end (results_cell_row rfl _ _ (w.heap.size + 1) TWD _ (0, 0) _ rfl (HBLK.out _ rfl).1 Try.underlying36 rfl wsize) rfl ?_
  exact HQ'.out _ _ ⟨v', rfl, HEND.out _ (HBLK.out _ rfl).2⟩

set_option maxHeartbeats 1000000 in
set_option maxRecDepth 100000 in
theorem law_ours (w : World) (v : WV) (d : WD) :
    Calls Try.prog 23 #[v.val d] w fun e w' => e = .returned (v.val d) ∧ Below w.heap.size w w' := by
  refine calls_hide fun Q HQ => ?_
  have HQ' := Lib.hid HQ
  have hba := ((Below.refl w.heap.size w).alloc (Nat.le_refl _) (.cells (v.cells d).toArray TWD)).alloc (by simp) (.cells #[.slice none 0 0, .slice none 0 0, .slice none 0 0, .slice none 0 0, .slice none 0 0] TRW)
  have hb1 := (Blk.new w TWD (v.cells d)).alloc (.cells #[.slice none 0 0, .slice none 0 0, .slice none 0 0, .slice none 0 0, .slice none 0 0] TRW)
  have hb2' := Blk.new (w.alloc (.cells (v.cells d).toArray TWD)) TRW zero5
  rw [World.size_alloc] at hb2'
  have hb2 : Blk ((w.alloc (.cells (v.cells d).toArray TWD)).alloc (.cells #[.slice none 0 0, .slice none 0 0, .slice none 0 0, .slice none 0 0, .slice none 0 0] TRW)) (w.heap.size + 1) TRW zero5 := hb2'
  have hc0 := hb1.cell 0
  have hc1 := hb1.cell 1
  have hc2 := hb1.cell 2
  have hc3 := hb1.cell 3
  have hc4 := hb1.cell 4
  have hr0 := hb2.cell 0
  have hr1 := hb2.cell 1
  have hr2 := hb2.cell 2
  have hr3 := hb2.cell 3
  have hr4 := hb2.cell 4
  have hf0 := hb2.free ⟨w.heap.size + 1, 0, none⟩ rfl
  have hf1 := hb2.free ⟨w.heap.size + 1, 1, none⟩ rfl
  have hf2 := hb2.free ⟨w.heap.size + 1, 2, none⟩ rfl
  have hf3 := hb2.free ⟨w.heap.size + 1, 3, none⟩ rfl
  have hf4 := hb2.free ⟨w.heap.size + 1, 4, none⟩ rfl
  simp only [List.getElem?_cons_zero, List.getElem?_cons_succ] at hc0 hc1 hc2 hc3 hc4 hr0 hr1 hr2 hr3 hr4
  have HBLK := Lib.hid (fun wz e => res_endR hb2 (.slice v.A0 d.fields.length v.c0) (.slice v.A1 d.infos.length v.c1) (.slice v.A2 d.marks.length v.c2) (.slice v.A3 d.states.length v.c3) (.slice v.A4 d.frozen.length v.c4) wz e)
  have HBA := Lib.hid hba
  clear HQ hba hb1 hb2 hb2'
  go_enter Try.func23, Try.ntmps23
  go_upto_region 1 with (fail)
  generalize (w.alloc (.cells (v.cells d).toArray TWD)).alloc (.cells #[.slice none 0 0, .slice none 0 0, .slice none 0 0, .slice none 0 0, .slice none 0 0] TRW) = wA at *
  go_wp2
  (try simp only [Exit.inBlock, Exit.then])
  refine bodyPost_end (results_cell_row rfl _ _ (w.heap.size + 1) TRW _ (0, 0) _ rfl (HBLK.out _ rfl).1 Try.underlying43 rfl wsizeR) rfl ?_
  exact HQ'.out _ _ ⟨rfl, HBA.out.trans ((HBLK.out _ rfl).2.below HBA.out.size (fun k hk => by rw [hk]; exact Nat.le_succ _))⟩

abbrev TAC : Nat := 65
theorem ainfo : (Try.prog.info? TAC).map (fun i => (i.zero, i.size, i.bytes)) = some (some (.agg #[.int .i64 0, .int .i64 0, .int .i64 0, .int .i64 0, .int .i64 0]), 5, 40) := by kernel_rfl
/-- A row of acts of the call's own, as it is read. -/
theorem own_acts {w : World} {B e n : Nat} {v : Value} {l : List ActD} (h : w.ownsRow B e 5 v n (l.flatMap ActD.cells)) : ∃ A c, v = .slice A l.length c ∧ l.length ≤ c ∧ ActsAt w A l := by
  have hfl : ∀ l : List ActD, (l.flatMap ActD.cells).length = l.length * 5 := fun l => by
    induction l with
    | nil => rfl
    | cons x l ih => simp only [List.flatMap_cons, List.length_append, ih, List.length_cons, List.length_nil]; omega
  have hn : l.length = n := by have := h.1; rw [hfl] at this; omega
  subst hn
  have hget : ∀ (l : List ActD) (j : Nat) x, l[j]? = some x → ∀ (i : Nat) u, x.cells[i]? = some u → (l.flatMap ActD.cells)[j * 5 + i]? = some u := fun l => by
    induction l with
    | nil => intro j x hx; simp at hx
    | cons y l ih =>
      intro j x hx i u hu
      cases j with
      | zero =>
        simp only [List.getElem?_cons_zero, Option.some.injEq] at hx
        subst hx
        have hi := (List.getElem?_eq_some_iff.1 hu).1
        rw [List.flatMap_cons, Nat.zero_mul, Nat.zero_add, List.getElem?_append_left hi]
        exact hu
      | succ j =>
        simp only [List.getElem?_cons_succ] at hx
        have hl : y.cells.length = 5 := rfl
        rw [List.flatMap_cons, List.getElem?_append_right (by rw [hl]; omega), hl, show (j + 1) * 5 + i - 5 = j * 5 + i by omega]
        exact ih j x hx i u hu
  by_cases hv : v = .slice none 0 0
  · subst hv
    have h0 : l.length = 0 := by
      rcases h.2 with ⟨_, h0⟩ | ⟨g, cap, cur, hv, _⟩
      · exact h0
      · simp at hv
    exact ⟨none, 0, by rw [h0], by omega, fun h => by omega⟩
  · rcases h.2 with ⟨hv', _⟩ | ⟨g, cap, cur, hv', hb, hh, hn, hc, hs, ht⟩
    · exact absurd hv' hv
    · refine ⟨some ⟨g, 0, none⟩, cap, hv', hn, fun hl => ⟨g, 0, rfl, fun j x hx i u hu => ?_⟩⟩
      rw [cell_of_row w g _ cur e (0, 0) hh]
      have h1 := hget l j x hx i u hu
      have h2 := (List.getElem?_eq_some_iff.1 h1).1
      rw [hfl] at h2
      rw [← ht, List.getElem?_take, if_pos h2] at h1
      simpa [Nat.zero_add] using h1

set_option maxHeartbeats 1000000 in
set_option maxRecDepth 100000 in
theorem law_acts (w : World) (A : Option Addr) (c : Nat) (l : List ActD) (ha : ActsAt w A l) (hl : l.length ≤ 1000000000) :
    Calls Try.prog 19 #[.slice A l.length c] w fun e w' => ∃ v, e = .returned v ∧ w'.ownsRow w.heap.size TAC 5 v l.length (l.flatMap ActD.cells) ∧ Below w.heap.size w w' := by
  refine calls_hide fun Q HQ => ?_
  have HQ' := Lib.hid HQ
  have HA := Lib.hid ha
  clear HQ ha
  go_enter Try.func19, Try.ntmps19
  go_wp2
  go_loopw [4, 3] (fun k v wr => ∃ j : Nat, j ≤ l.length ∧ k = .int .i64 j ∧ Below w.heap.size w wr ∧ wr.ownsRow w.heap.size TAC 5 v (l.take j).length ((l.take j).flatMap ActD.cells)) (fun k _ _ => l.length - (intOf k).toNat)
  case atStart => exact ⟨0, Nat.zero_le _, rfl, Below.refl _ _, World.ownsRow_nil _ _ _ _⟩
  case round =>
    obtain ⟨j, hj, rfl, hb, ho⟩ := hrel
    have HB := Lib.hid hb
    have HO := Lib.hid ho
    have HVF := Lib.hid (show ∃ A c, u3 = .slice A (l.take j).length c from own_slice ho)
    clear hb ho
    by_cases hlt : j < l.length
    · obtain ⟨ab, ao, hAd, ha0, ha1, ha2, ha3, ha4⟩ := (HA.out.below HB.out).at_ hlt
      subst hAd
      have HT := Lib.hid (take_one' l j hlt)
      have HLJ := Lib.hid (show (l.take j).length = j by simp; omega)
      generalize l[j] = x at *
      go_wp2
      refine start_ (n := 30) (S := fun _ => True) (ds := []) #[false, false, false, false, false, false, false, false, false, false, false, false, false, false, false, false, false, false, false, false, false, false, false, false, false, false, false, false, false, false] (by kernel_rfl) rfl rfl trivial (fun _ => ?_)
      have HBQ := Lib.hid (show ∀ w', Below wr.drew.heap.size wr.drew w' → Below wr.heap.size wr w' from fun _ h => ⟨h.os, h.tape, h.output, h.size, h.block⟩)
      have HSZ := Lib.hid (show wr.drew.heap.size = wr.heap.size from rfl)
      have HA0 := Lib.hid (fun w' (hb : Below wr.drew.heap.size wr.drew w') => pw_cell_below (w := wr.drew) hb ha0)
      have HA1 := Lib.hid (fun w' (hb : Below wr.drew.heap.size wr.drew w') => pw_cell_below (w := wr.drew) hb ha1)
      have HA2 := Lib.hid (fun w' (hb : Below wr.drew.heap.size wr.drew w') => pw_cell_below (w := wr.drew) hb ha2)
      have HA3 := Lib.hid (fun w' (hb : Below wr.drew.heap.size wr.drew w') => pw_cell_below (w := wr.drew) hb ha3)
      have HA4 := Lib.hid (fun w' (hb : Below wr.drew.heap.size wr.drew w') => pw_cell_below (w := wr.drew) hb ha4)
      clear ha0 ha1 ha2 ha3 ha4
      generalize wr.drew = wq at *
      refine grow_region (md := .any) (w0 := wq) (B := [0, 0, 0, 6, 14, 30, 0, 0, 192, 448, 960, 0, 0, 6144, 14336, 30720, 0, 0, 196608, 458752, 983040, 0, 0, 6291456, 14680064, 31457280, 67108862, 134217726, 268435455, 536870911]) [(0, 11), (1, 12), (2, 13), (3, 14), (4, 15), (5, 16), (6, 17), (7, 18), (8, 19), (9, 20), (10, 21), (11, 22), (12, 23), (13, 24), (14, 25), (15, 26), (16, 27), (17, 28), (18, 29), (19, 30), (20, 31), (21, 32), (22, 33), (23, 34), (24, 35), (25, 36), (26, 37), (27, 38)] [28, 29] (fun i => [].contains i) (fun i => 0) (fun i V w' => match i with
          | 0 => V 0 = u3
          | 1 => V 1 = .slice (some ⟨ab, ao, none⟩) l.length c
          | 2 => V 2 = .int .i64 j
          | 3 => V 3 = .pointer (some ⟨ab, ao + j * 5, none⟩)
          | 4 => V 4 = .pointer (some ⟨ab, ao + j * 5, none⟩)
          | 5 => V 5 = .int .i64 x.k
          | 6 => V 6 = .slice (some ⟨ab, ao, none⟩) l.length c
          | 7 => V 7 = .int .i64 j
          | 8 => V 8 = .pointer (some ⟨ab, ao + j * 5, none⟩)
          | 9 => V 9 = .pointer (some ⟨ab, ao + j * 5 + 1, none⟩)
          | 10 => V 10 = .int .i64 x.at_
          | 11 => V 11 = .slice (some ⟨ab, ao, none⟩) l.length c
          | 12 => V 12 = .int .i64 j
          | 13 => V 13 = .pointer (some ⟨ab, ao + j * 5, none⟩)
          | 14 => V 14 = .pointer (some ⟨ab, ao + j * 5 + 2, none⟩)
          | 15 => V 15 = .int .i64 x.a
          | 16 => V 16 = .slice (some ⟨ab, ao, none⟩) l.length c
          | 17 => V 17 = .int .i64 j
          | 18 => V 18 = .pointer (some ⟨ab, ao + j * 5, none⟩)
          | 19 => V 19 = .pointer (some ⟨ab, ao + j * 5 + 3, none⟩)
          | 20 => V 20 = .int .i64 x.b
          | 21 => V 21 = .slice (some ⟨ab, ao, none⟩) l.length c
          | 22 => V 22 = .int .i64 j
          | 23 => V 23 = .pointer (some ⟨ab, ao + j * 5, none⟩)
          | 24 => V 24 = .pointer (some ⟨ab, ao + j * 5 + 4, none⟩)
          | 25 => V 25 = .int .i64 x.c
          | 26 => V 26 = .agg #[.int .i64 x.k, .int .i64 x.at_, .int .i64 x.a, .int .i64 x.b, .int .i64 x.c]
          | 27 => ∃ s, V 27 = .slice (some ⟨s, 0, none⟩) 1 1 ∧ Blk w' s TAC x.cells
          | _ => True) rfl (by kernel_rfl) (by kernel_rfl) (by kernel_rfl) (by kernel_rfl) (by kernel_rfl) (by kernel_rfl) (by kernel_rfl) (by kernel_rfl) ?_ ?_ ?_ ?_
      · intro e he V V' w' h hp
        simp only [List.mem_cons, List.not_mem_nil, or_false] at he
        rcases he with rfl | rfl | rfl | rfl | rfl | rfl | rfl | rfl | rfl | rfl | rfl | rfl | rfl | rfl | rfl | rfl | rfl | rfl | rfl | rfl | rfl | rfl | rfl | rfl | rfl | rfl | rfl | rfl
        · simp only [← h 0 (.inl rfl)]; exact hp
        · simp only [← h 1 (.inl rfl)]; exact hp
        · simp only [← h 2 (.inl rfl)]; exact hp
        · simp only [← h 3 (.inl rfl)]; exact hp
        · simp only [← h 4 (.inl rfl)]; exact hp
        · simp only [← h 5 (.inl rfl)]; exact hp
        · simp only [← h 6 (.inl rfl)]; exact hp
        · simp only [← h 7 (.inl rfl)]; exact hp
        · simp only [← h 8 (.inl rfl)]; exact hp
        · simp only [← h 9 (.inl rfl)]; exact hp
        · simp only [← h 10 (.inl rfl)]; exact hp
        · simp only [← h 11 (.inl rfl)]; exact hp
        · simp only [← h 12 (.inl rfl)]; exact hp
        · simp only [← h 13 (.inl rfl)]; exact hp
        · simp only [← h 14 (.inl rfl)]; exact hp
        · simp only [← h 15 (.inl rfl)]; exact hp
        · simp only [← h 16 (.inl rfl)]; exact hp
        · simp only [← h 17 (.inl rfl)]; exact hp
        · simp only [← h 18 (.inl rfl)]; exact hp
        · simp only [← h 19 (.inl rfl)]; exact hp
        · simp only [← h 20 (.inl rfl)]; exact hp
        · simp only [← h 21 (.inl rfl)]; exact hp
        · simp only [← h 22 (.inl rfl)]; exact hp
        · simp only [← h 23 (.inl rfl)]; exact hp
        · simp only [← h 24 (.inl rfl)]; exact hp
        · simp only [← h 25 (.inl rfl)]; exact hp
        · simp only [← h 26 (.inl rfl)]; exact hp
        · simp only [← h 27 (.inl rfl)]; exact hp
      · intro e he V w1 w2 hp hb
        simp only [List.mem_cons, List.not_mem_nil, or_false] at he
        rcases he with rfl | rfl | rfl | rfl | rfl | rfl | rfl | rfl | rfl | rfl | rfl | rfl | rfl | rfl | rfl | rfl | rfl | rfl | rfl | rfl | rfl | rfl | rfl | rfl | rfl | rfl | rfl | rfl
        · exact hp
        · exact hp
        · exact hp
        · exact hp
        · exact hp
        · exact hp
        · exact hp
        · exact hp
        · exact hp
        · exact hp
        · exact hp
        · exact hp
        · exact hp
        · exact hp
        · exact hp
        · exact hp
        · exact hp
        · exact hp
        · exact hp
        · exact hp
        · exact hp
        · exact hp
        · exact hp
        · exact hp
        · exact hp
        · exact hp
        · exact hp
        · exact let ⟨s, h1, h2⟩ := hp; ⟨s, h1, (Fr.of_below0 (S := fun _ => False) hb).blk h2 id⟩
      · intro e he
        simp only [List.mem_cons, List.not_mem_nil, or_false] at he
        rcases he with rfl | rfl | rfl | rfl | rfl | rfl | rfl | rfl | rfl | rfl | rfl | rfl | rfl | rfl | rfl | rfl | rfl | rfl | rfl | rfl | rfl | rfl | rfl | rfl | rfl | rfl | rfl | rfl
        · intro V a w' hd ho hB
          have e3 : a.tmps[3]? = some (u3) := (ho 3 (by decide)).trans rfl
          refine ⟨_, rfl, rfl, fun K hK => ?_⟩
          clear hd ho
          refine value_ (w1 := w') (v := u3) rfl rfl ?_ (hK.out _ _ (Below.refl _ _) (setV_self _ _ _) (fun h => absurd h (by decide)))
          obtain ⟨Av, cv, xv⟩ := HVF.out
          rw [xv] at e3 ⊢
          go_simp
        · intro V a w' hd ho hB
          have e0 : a.tmps[0]? = some (.slice (some ⟨ab, ao, none⟩) l.length c) := (ho 0 (by decide)).trans rfl
          refine ⟨_, rfl, rfl, fun K hK => ?_⟩
          clear hd ho
          refine value_ (w1 := w') (v := .slice (some ⟨ab, ao, none⟩) l.length c) rfl rfl ?_ (hK.out _ _ (Below.refl _ _) (setV_self _ _ _) (fun h => absurd h (by decide)))
          go_simp
        · intro V a w' hd ho hB
          have e4 : a.tmps[4]? = some (.int .i64 j) := (ho 4 (by decide)).trans rfl
          refine ⟨_, rfl, rfl, fun K hK => ?_⟩
          clear hd ho
          refine value_ (w1 := w') (v := .int .i64 j) rfl rfl ?_ (hK.out _ _ (Below.refl _ _) (setV_self _ _ _) (fun h => absurd h (by decide)))
          go_simp
        · intro V a w' hd ho hB
          obtain ⟨e12, p12, o12⟩ := hd (1, 12) (by decide) (by kernel_rfl)
          rw [show V 1 = .slice (some ⟨ab, ao, none⟩) l.length c from p12] at e12
          obtain ⟨e13, p13, o13⟩ := hd (2, 13) (by decide) (by kernel_rfl)
          rw [show V 2 = .int .i64 j from p13] at e13
          refine ⟨_, rfl, rfl, fun K hK => ?_⟩
          clear hd ho
          refine value_ (w1 := w') (v := .pointer (some ⟨ab, ao + j * 5, none⟩)) rfl rfl ?_ (hK.out _ _ (Below.refl _ _) (setV_self _ _ _) (fun h => absurd h (by decide)))
          go_simp
        · intro V a w' hd ho hB
          obtain ⟨e14, p14, o14⟩ := hd (3, 14) (by decide) (by kernel_rfl)
          rw [show V 3 = .pointer (some ⟨ab, ao + j * 5, none⟩) from p14] at e14
          refine ⟨_, rfl, rfl, fun K hK => ?_⟩
          clear hd ho
          refine value_ (w1 := w') (v := .pointer (some ⟨ab, ao + j * 5, none⟩)) rfl rfl ?_ (hK.out _ _ (Below.refl _ _) (setV_self _ _ _) (fun h => absurd h (by decide)))
          go_simp
        · intro V a w' hd ho hB
          obtain ⟨e15, p15, o15⟩ := hd (4, 15) (by decide) (by kernel_rfl)
          rw [show V 4 = .pointer (some ⟨ab, ao + j * 5, none⟩) from p15] at e15
          have hc := HA0.out w' hB
          refine ⟨_, rfl, rfl, fun K hK => ?_⟩
          clear hd ho
          refine value_ (w1 := w') (v := .int .i64 x.k) rfl rfl ?_ (hK.out _ _ (Below.refl _ _) (setV_self _ _ _) (fun h => absurd h (by decide)))
          go_simp
        · intro V a w' hd ho hB
          have e0 : a.tmps[0]? = some (.slice (some ⟨ab, ao, none⟩) l.length c) := (ho 0 (by decide)).trans rfl
          refine ⟨_, rfl, rfl, fun K hK => ?_⟩
          clear hd ho
          refine value_ (w1 := w') (v := .slice (some ⟨ab, ao, none⟩) l.length c) rfl rfl ?_ (hK.out _ _ (Below.refl _ _) (setV_self _ _ _) (fun h => absurd h (by decide)))
          go_simp
        · intro V a w' hd ho hB
          have e4 : a.tmps[4]? = some (.int .i64 j) := (ho 4 (by decide)).trans rfl
          refine ⟨_, rfl, rfl, fun K hK => ?_⟩
          clear hd ho
          refine value_ (w1 := w') (v := .int .i64 j) rfl rfl ?_ (hK.out _ _ (Below.refl _ _) (setV_self _ _ _) (fun h => absurd h (by decide)))
          go_simp
        · intro V a w' hd ho hB
          obtain ⟨e17, p17, o17⟩ := hd (6, 17) (by decide) (by kernel_rfl)
          rw [show V 6 = .slice (some ⟨ab, ao, none⟩) l.length c from p17] at e17
          obtain ⟨e18, p18, o18⟩ := hd (7, 18) (by decide) (by kernel_rfl)
          rw [show V 7 = .int .i64 j from p18] at e18
          refine ⟨_, rfl, rfl, fun K hK => ?_⟩
          clear hd ho
          refine value_ (w1 := w') (v := .pointer (some ⟨ab, ao + j * 5, none⟩)) rfl rfl ?_ (hK.out _ _ (Below.refl _ _) (setV_self _ _ _) (fun h => absurd h (by decide)))
          go_simp
        · intro V a w' hd ho hB
          obtain ⟨e19, p19, o19⟩ := hd (8, 19) (by decide) (by kernel_rfl)
          rw [show V 8 = .pointer (some ⟨ab, ao + j * 5, none⟩) from p19] at e19
          refine ⟨_, rfl, rfl, fun K hK => ?_⟩
          clear hd ho
          refine value_ (w1 := w') (v := .pointer (some ⟨ab, ao + j * 5 + 1, none⟩)) rfl rfl ?_ (hK.out _ _ (Below.refl _ _) (setV_self _ _ _) (fun h => absurd h (by decide)))
          go_simp
        · intro V a w' hd ho hB
          obtain ⟨e20, p20, o20⟩ := hd (9, 20) (by decide) (by kernel_rfl)
          rw [show V 9 = .pointer (some ⟨ab, ao + j * 5 + 1, none⟩) from p20] at e20
          have hc := HA1.out w' hB
          refine ⟨_, rfl, rfl, fun K hK => ?_⟩
          clear hd ho
          refine value_ (w1 := w') (v := .int .i64 x.at_) rfl rfl ?_ (hK.out _ _ (Below.refl _ _) (setV_self _ _ _) (fun h => absurd h (by decide)))
          go_simp
        · intro V a w' hd ho hB
          have e0 : a.tmps[0]? = some (.slice (some ⟨ab, ao, none⟩) l.length c) := (ho 0 (by decide)).trans rfl
          refine ⟨_, rfl, rfl, fun K hK => ?_⟩
          clear hd ho
          refine value_ (w1 := w') (v := .slice (some ⟨ab, ao, none⟩) l.length c) rfl rfl ?_ (hK.out _ _ (Below.refl _ _) (setV_self _ _ _) (fun h => absurd h (by decide)))
          go_simp
        · intro V a w' hd ho hB
          have e4 : a.tmps[4]? = some (.int .i64 j) := (ho 4 (by decide)).trans rfl
          refine ⟨_, rfl, rfl, fun K hK => ?_⟩
          clear hd ho
          refine value_ (w1 := w') (v := .int .i64 j) rfl rfl ?_ (hK.out _ _ (Below.refl _ _) (setV_self _ _ _) (fun h => absurd h (by decide)))
          go_simp
        · intro V a w' hd ho hB
          obtain ⟨e22, p22, o22⟩ := hd (11, 22) (by decide) (by kernel_rfl)
          rw [show V 11 = .slice (some ⟨ab, ao, none⟩) l.length c from p22] at e22
          obtain ⟨e23, p23, o23⟩ := hd (12, 23) (by decide) (by kernel_rfl)
          rw [show V 12 = .int .i64 j from p23] at e23
          refine ⟨_, rfl, rfl, fun K hK => ?_⟩
          clear hd ho
          refine value_ (w1 := w') (v := .pointer (some ⟨ab, ao + j * 5, none⟩)) rfl rfl ?_ (hK.out _ _ (Below.refl _ _) (setV_self _ _ _) (fun h => absurd h (by decide)))
          go_simp
        · intro V a w' hd ho hB
          obtain ⟨e24, p24, o24⟩ := hd (13, 24) (by decide) (by kernel_rfl)
          rw [show V 13 = .pointer (some ⟨ab, ao + j * 5, none⟩) from p24] at e24
          refine ⟨_, rfl, rfl, fun K hK => ?_⟩
          clear hd ho
          refine value_ (w1 := w') (v := .pointer (some ⟨ab, ao + j * 5 + 2, none⟩)) rfl rfl ?_ (hK.out _ _ (Below.refl _ _) (setV_self _ _ _) (fun h => absurd h (by decide)))
          go_simp
        · intro V a w' hd ho hB
          obtain ⟨e25, p25, o25⟩ := hd (14, 25) (by decide) (by kernel_rfl)
          rw [show V 14 = .pointer (some ⟨ab, ao + j * 5 + 2, none⟩) from p25] at e25
          have hc := HA2.out w' hB
          refine ⟨_, rfl, rfl, fun K hK => ?_⟩
          clear hd ho
          refine value_ (w1 := w') (v := .int .i64 x.a) rfl rfl ?_ (hK.out _ _ (Below.refl _ _) (setV_self _ _ _) (fun h => absurd h (by decide)))
          go_simp
        · intro V a w' hd ho hB
          have e0 : a.tmps[0]? = some (.slice (some ⟨ab, ao, none⟩) l.length c) := (ho 0 (by decide)).trans rfl
          refine ⟨_, rfl, rfl, fun K hK => ?_⟩
          clear hd ho
          refine value_ (w1 := w') (v := .slice (some ⟨ab, ao, none⟩) l.length c) rfl rfl ?_ (hK.out _ _ (Below.refl _ _) (setV_self _ _ _) (fun h => absurd h (by decide)))
          go_simp
        · intro V a w' hd ho hB
          have e4 : a.tmps[4]? = some (.int .i64 j) := (ho 4 (by decide)).trans rfl
          refine ⟨_, rfl, rfl, fun K hK => ?_⟩
          clear hd ho
          refine value_ (w1 := w') (v := .int .i64 j) rfl rfl ?_ (hK.out _ _ (Below.refl _ _) (setV_self _ _ _) (fun h => absurd h (by decide)))
          go_simp
        · intro V a w' hd ho hB
          obtain ⟨e27, p27, o27⟩ := hd (16, 27) (by decide) (by kernel_rfl)
          rw [show V 16 = .slice (some ⟨ab, ao, none⟩) l.length c from p27] at e27
          obtain ⟨e28, p28, o28⟩ := hd (17, 28) (by decide) (by kernel_rfl)
          rw [show V 17 = .int .i64 j from p28] at e28
          refine ⟨_, rfl, rfl, fun K hK => ?_⟩
          clear hd ho
          refine value_ (w1 := w') (v := .pointer (some ⟨ab, ao + j * 5, none⟩)) rfl rfl ?_ (hK.out _ _ (Below.refl _ _) (setV_self _ _ _) (fun h => absurd h (by decide)))
          go_simp
        · intro V a w' hd ho hB
          obtain ⟨e29, p29, o29⟩ := hd (18, 29) (by decide) (by kernel_rfl)
          rw [show V 18 = .pointer (some ⟨ab, ao + j * 5, none⟩) from p29] at e29
          refine ⟨_, rfl, rfl, fun K hK => ?_⟩
          clear hd ho
          refine value_ (w1 := w') (v := .pointer (some ⟨ab, ao + j * 5 + 3, none⟩)) rfl rfl ?_ (hK.out _ _ (Below.refl _ _) (setV_self _ _ _) (fun h => absurd h (by decide)))
          go_simp
        · intro V a w' hd ho hB
          obtain ⟨e30, p30, o30⟩ := hd (19, 30) (by decide) (by kernel_rfl)
          rw [show V 19 = .pointer (some ⟨ab, ao + j * 5 + 3, none⟩) from p30] at e30
          have hc := HA3.out w' hB
          refine ⟨_, rfl, rfl, fun K hK => ?_⟩
          clear hd ho
          refine value_ (w1 := w') (v := .int .i64 x.b) rfl rfl ?_ (hK.out _ _ (Below.refl _ _) (setV_self _ _ _) (fun h => absurd h (by decide)))
          go_simp
        · intro V a w' hd ho hB
          have e0 : a.tmps[0]? = some (.slice (some ⟨ab, ao, none⟩) l.length c) := (ho 0 (by decide)).trans rfl
          refine ⟨_, rfl, rfl, fun K hK => ?_⟩
          clear hd ho
          refine value_ (w1 := w') (v := .slice (some ⟨ab, ao, none⟩) l.length c) rfl rfl ?_ (hK.out _ _ (Below.refl _ _) (setV_self _ _ _) (fun h => absurd h (by decide)))
          go_simp
        · intro V a w' hd ho hB
          have e4 : a.tmps[4]? = some (.int .i64 j) := (ho 4 (by decide)).trans rfl
          refine ⟨_, rfl, rfl, fun K hK => ?_⟩
          clear hd ho
          refine value_ (w1 := w') (v := .int .i64 j) rfl rfl ?_ (hK.out _ _ (Below.refl _ _) (setV_self _ _ _) (fun h => absurd h (by decide)))
          go_simp
        · intro V a w' hd ho hB
          obtain ⟨e32, p32, o32⟩ := hd (21, 32) (by decide) (by kernel_rfl)
          rw [show V 21 = .slice (some ⟨ab, ao, none⟩) l.length c from p32] at e32
          obtain ⟨e33, p33, o33⟩ := hd (22, 33) (by decide) (by kernel_rfl)
          rw [show V 22 = .int .i64 j from p33] at e33
          refine ⟨_, rfl, rfl, fun K hK => ?_⟩
          clear hd ho
          refine value_ (w1 := w') (v := .pointer (some ⟨ab, ao + j * 5, none⟩)) rfl rfl ?_ (hK.out _ _ (Below.refl _ _) (setV_self _ _ _) (fun h => absurd h (by decide)))
          go_simp
        · intro V a w' hd ho hB
          obtain ⟨e34, p34, o34⟩ := hd (23, 34) (by decide) (by kernel_rfl)
          rw [show V 23 = .pointer (some ⟨ab, ao + j * 5, none⟩) from p34] at e34
          refine ⟨_, rfl, rfl, fun K hK => ?_⟩
          clear hd ho
          refine value_ (w1 := w') (v := .pointer (some ⟨ab, ao + j * 5 + 4, none⟩)) rfl rfl ?_ (hK.out _ _ (Below.refl _ _) (setV_self _ _ _) (fun h => absurd h (by decide)))
          go_simp
        · intro V a w' hd ho hB
          obtain ⟨e35, p35, o35⟩ := hd (24, 35) (by decide) (by kernel_rfl)
          rw [show V 24 = .pointer (some ⟨ab, ao + j * 5 + 4, none⟩) from p35] at e35
          have hc := HA4.out w' hB
          refine ⟨_, rfl, rfl, fun K hK => ?_⟩
          clear hd ho
          refine value_ (w1 := w') (v := .int .i64 x.c) rfl rfl ?_ (hK.out _ _ (Below.refl _ _) (setV_self _ _ _) (fun h => absurd h (by decide)))
          go_simp
        · intro V a w' hd ho hB
          obtain ⟨e16, p16, o16⟩ := hd (5, 16) (by decide) (by kernel_rfl)
          rw [show V 5 = .int .i64 x.k from p16] at e16
          obtain ⟨e21, p21, o21⟩ := hd (10, 21) (by decide) (by kernel_rfl)
          rw [show V 10 = .int .i64 x.at_ from p21] at e21
          obtain ⟨e26, p26, o26⟩ := hd (15, 26) (by decide) (by kernel_rfl)
          rw [show V 15 = .int .i64 x.a from p26] at e26
          obtain ⟨e31, p31, o31⟩ := hd (20, 31) (by decide) (by kernel_rfl)
          rw [show V 20 = .int .i64 x.b from p31] at e31
          obtain ⟨e36, p36, o36⟩ := hd (25, 36) (by decide) (by kernel_rfl)
          rw [show V 25 = .int .i64 x.c from p36] at e36
          refine ⟨_, rfl, rfl, fun K hK => ?_⟩
          clear hd ho
          refine value_ (w1 := w') (v := .agg #[.int .i64 x.k, .int .i64 x.at_, .int .i64 x.a, .int .i64 x.b, .int .i64 x.c]) rfl rfl ?_ (hK.out _ _ (Below.refl _ _) (setV_self _ _ _) (fun h => absurd h (by decide)))
          go_simp
        · intro V a w' hd ho hB
          obtain ⟨e37, p37, o37⟩ := hd (26, 37) (by decide) (by kernel_rfl)
          rw [show V 26 = .agg #[.int .i64 x.k, .int .i64 x.at_, .int .i64 x.a, .int .i64 x.b, .int .i64 x.c] from p37] at e37
          refine ⟨_, rfl, rfl, fun K hK => ?_⟩
          refine value_ (w1 := w'.alloc (.cells #[.int .i64 x.k, .int .i64 x.at_, .int .i64 x.a, .int .i64 x.b, .int .i64 x.c] TAC)) (v := .slice (some ⟨w'.heap.size, 0, none⟩) 1 1) rfl rfl ?_ (hK.out _ _ ((Below.refl _ _).alloc (Nat.le_refl _) _) ⟨w'.heap.size, setV_self _ _ _, Blk.new w' TAC x.cells⟩ (fun h => absurd h (by decide)))
          clear hd ho hK
          go_simp
      · intro V a w' hfr hB hP hap hlt
        have P0 := hP (0, 11) (by decide)
        have P1 := hP (1, 12) (by decide)
        have P2 := hP (2, 13) (by decide)
        have P3 := hP (3, 14) (by decide)
        have P4 := hP (4, 15) (by decide)
        have P5 := hP (5, 16) (by decide)
        have P6 := hP (6, 17) (by decide)
        have P7 := hP (7, 18) (by decide)
        have P8 := hP (8, 19) (by decide)
        have P9 := hP (9, 20) (by decide)
        have P10 := hP (10, 21) (by decide)
        have P11 := hP (11, 22) (by decide)
        have P12 := hP (12, 23) (by decide)
        have P13 := hP (13, 24) (by decide)
        have P14 := hP (14, 25) (by decide)
        have P15 := hP (15, 26) (by decide)
        have P16 := hP (16, 27) (by decide)
        have P17 := hP (17, 28) (by decide)
        have P18 := hP (18, 29) (by decide)
        have P19 := hP (19, 30) (by decide)
        have P20 := hP (20, 31) (by decide)
        have P21 := hP (21, 32) (by decide)
        have P22 := hP (22, 33) (by decide)
        have P23 := hP (23, 34) (by decide)
        have P24 := hP (24, 35) (by decide)
        have P25 := hP (25, 36) (by decide)
        have P26 := hP (26, 37) (by decide)
        have P27 := hP (27, 38) (by decide)
        clear hP
        obtain ⟨s, hs, hsb⟩ := P27
        have hbr := HBQ.out _ hB
        have ho := pw_own_below HO.out hbr
        obtain ⟨i0, hi, hz0, hz1, hz2⟩ := info_parts ainfo
        obtain ⟨v1, w1, hrun, hown, hgrow, _, _⟩ := run_append_own_at (P := Try.prog) w' w.heap.size 51 51 TAC i0 _ 5 40 Try.underlying51 hi hz0 hz1 hz2 rfl (by decide) u3 (l.take j).length _ ho ⟨s, 0, none⟩ 1 1 x.cells rfl (fun q u hq => by rw [Go.Proofs.YtphhdmopfmelbaaW.PrintWords.add_plain]; exact (hsb.cell q).trans hq) (by intro u hu; simp only [ActD.cells, List.mem_cons, List.not_mem_nil, or_false] at hu; rcases hu with rfl | rfl | rfl | rfl | rfl <;> rfl) (by simp only [maxLen]; have := HLJ.out; omega) (by have := HLJ.out; omega) (Nat.le_trans HB.out.size hbr.size)
        have HN := Lib.hid (show w1.ownsRow w.heap.size TAC 5 v1 (l.take (j + 1)).length ((l.take (j + 1)).flatMap ActD.cells) by rw [← HT.out, List.length_append, List.flatMap_append]; simpa using hown)
        have HBN := Lib.hid (pw_below_grown (HB.out.trans (hbr.mono HB.out.size)) _ (Nat.le_trans HB.out.size hbr.size) hgrow (fun k hk => own_base ho k hk))
        obtain ⟨A9, c9, x9⟩ := own_slice hown
        subst hfr
        simp only [vrows, List.map_cons, List.map_nil, putSel, if_true, Act.put, List.setIfInBounds_toArray, List.set_cons_zero, List.set_cons_succ]
        refine seq_value v1 rfl rfl rfl (append_exec rfl (eval_of (by exact congrArg some P0)) (eval_of (by exact congrArg some hs)) hrun) ?_
        simp only [Act.put, List.setIfInBounds_toArray, List.set_cons_zero, List.set_cons_succ]
        refine seq_value (w1 := w1) v1 rfl rfl rfl ?_ ?_
        · clear hrun hown hgrow ho; rw [x9]; go_simp
        simp only [Act.put, List.setIfInBounds_toArray, List.set_cons_zero, List.set_cons_succ]
        clear hrun hown hgrow ho hbr hap x9 hs hsb hB P0 P1 P2 P3 P4 P5 P6 P7 P8 P9 P10 P11 P12 P13 P14 P15 P16 P17 P18 P19 P20 P21 P22 P23 P24 P25 P26 HB HO HT HBQ HSZ HA0 HA1 HA2 HA3 HA4 HLJ HVF
        refine seq_nil ?_
        go_wp2
        go_roundw
        case rel => exact ⟨j + 1, by omega, by go_num, HBN.out, HN.out⟩
        case measure => simp [intOf]; omega
    · have hje : j = l.length := by omega
      subst hje
      have ho := HO.out
      rw [List.take_length] at ho
      go_wp2
      exact HQ'.out _ _ ⟨_, rfl, ho, HB.out⟩
end Go.Proofs.Ytphhdmopfmelbaa
