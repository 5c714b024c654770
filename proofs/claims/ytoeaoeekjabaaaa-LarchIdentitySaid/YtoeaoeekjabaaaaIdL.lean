/- larchtop.LarchIdentity, walked. -/
import Derived.Test.YtoeaoeekjabaaaaIdF
import Derived.Test.YtoeaoeekjabaaaaIdG
namespace Go.Proofs.Ytoeaoeekjabaaaa
open Go.RowKit Go.Proofs.YtoeaoeekjabaaaaW.PrintWords
set_option linter.unusedVariables false
set_option linter.unusedSimpArgs false

def exL : List CA := [⟨5, 0, 1, 1⟩, ⟨5, 0, 0, 1⟩, ⟨1, 0, 0, 0⟩]
theorem exL_err : errI [0] 2 exL = 0 := by decide
theorem exL_run : runI [0] exL = ([0, 1, 1], [1]) := by decide
theorem exL_kinds : kindsI exL = [5, 5, 1] := rfl
theorem cas_blk {w : World} {b T : Nat} {l : List CA} (h : Blk w b T (l.flatMap CA.cells)) : CAsAt w (some ⟨b, 0, none⟩) l := fun _ => ⟨b, 0, rfl, fun j x hx i u hu => by
  rw [h.cell]
  have key : ∀ (l : List CA) (j : Nat) (x : CA) (i : Nat) (u : Value), l[j]? = some x → x.cells[i]? = some u → (l.flatMap CA.cells)[0 + j * 4 + i]? = some u := fun l => by
    induction l with
    | nil => intro j x i u h; simp at h
    | cons y l ih =>
      intro j x i u h hu
      rw [List.flatMap_cons]
      cases j with
      | zero =>
        simp only [List.getElem?_cons_zero, Option.some.injEq] at h
        subst h
        have hi := (List.getElem?_eq_some_iff.1 hu).1
        rw [show 0 + 0 * 4 + i = i by omega, List.getElem?_append_left hi]
        exact hu
      | succ j =>
        simp only [List.getElem?_cons_succ] at h
        have h9 := ih j x i u h hu
        rw [List.getElem?_append_right (by simp; omega), show 0 + (j + 1) * 4 + i - y.cells.length = 0 + j * 4 + i by simp; omega]
        exact h9
  exact key l j x i u hx hu⟩
theorem top_same (A : Option Addr) (c n : Nat) (xs : List Int) (A' : Option Addr) (c' : Nat) (w : World) (hn : xs.length = n) (hl : n ≤ 1000000000000000) (hr : Row1 w A n (xs.map (Value.int .i64))) (hr' : Row1 w A' n (xs.map (Value.int .i64))) :
    Calls Try.prog 5 #[.slice A n c, .slice A' n c'] w fun e w' => e = .returned (.bool true) ∧ ∃ m, w' = w.drewN m := by
  subst hn
  exact (top_sameInts A c xs A' c' xs w hr hr' hl).mono fun e w' h => ⟨by rw [h.1, decide_eq_true rfl], h.2⟩
/-- With a list that is written out. -/
theorem top_same_lit (A : Option Addr) (c : Nat) (xs : List Int) (W : World) (hl : xs.length ≤ 1000000000000000) (hr : Row1 W A xs.length (xs.map (Value.int .i64))) :
    Calls Try.prog 5 #[.slice A xs.length c, .slice (some ⟨W.heap.size, 0, none⟩) xs.length xs.length] (W.alloc (.cells (xs.map (Value.int .i64)).toArray TII)) fun e w' => e = .returned (.bool true) ∧ Below W.heap.size W w' := by
  have hb := (Below.refl W.heap.size W).alloc (Nat.le_refl _) (.cells (xs.map (Value.int .i64)).toArray TII)
  have h0 := Row1.of_blk (rest := []) (us := xs.map (Value.int .i64)) (by rw [List.append_nil]; exact Blk.new W TII (xs.map (Value.int .i64)))
  rw [List.length_map] at h0
  exact (top_same A c xs.length xs _ _ _ rfl hl (hr.below hb) h0).mono fun e w' ⟨h1, m, h2⟩ => ⟨h1, by rw [h2]; exact pw_below_drewN hb m⟩

/-- A row of acts of the call's own, as it is read. -/
theorem own_cas {w : World} {B e n : Nat} {v : Value} {l : List CA} (h : w.ownsRow B e 4 v n (l.flatMap CA.cells)) : ∃ A c, v = .slice A l.length c ∧ l.length ≤ c ∧ CAsAt w A l := by
  have hfl : ∀ l : List CA, (l.flatMap CA.cells).length = l.length * 4 := fun l => by
    induction l with
    | nil => rfl
    | cons x l ih => simp only [List.flatMap_cons, List.length_append, ih, List.length_cons, List.length_nil]; omega
  have hn : l.length = n := by have := h.1; rw [hfl] at this; omega
  subst hn
  have hget : ∀ (l : List CA) (j : Nat) x, l[j]? = some x → ∀ (i : Nat) u, x.cells[i]? = some u → (l.flatMap CA.cells)[j * 4 + i]? = some u := fun l => by
    induction l with
    | nil => intro j x hx; simp at hx
    | cons y l ih =>
      intro j x hx i u hu
      cases j with
      | zero =>
        simp only [List.getElem?_cons_zero, Option.some.injEq] at hx
        subst hx
        have hi := (List.getElem?_eq_some_iff.1 hu).1
        rw [List.flatMap_cons, Nat.zero_mul, Nat.zero_add, List.getElem?_append_left hi]
        exact hu
      | succ j =>
        simp only [List.getElem?_cons_succ] at hx
        have hl : y.cells.length = 4 := rfl
        rw [List.flatMap_cons, List.getElem?_append_right (by rw [hl]; omega), hl, show (j + 1) * 4 + i - 4 = j * 4 + i by omega]
        exact ih j x hx i u hu
  by_cases hv : v = .slice none 0 0
  · subst hv
    have h0 : l.length = 0 := by
      rcases h.2 with ⟨_, h0⟩ | ⟨g, cap, cur, hv, _⟩
      · exact h0
      · simp at hv
    exact ⟨none, 0, by rw [h0], by omega, fun h9 => absurd h9 (by omega)⟩
  · rcases h.2 with ⟨hv', _⟩ | ⟨g, cap, cur, hv', hb, hh, hn, hc, hs, ht⟩
    · exact absurd hv' hv
    · refine ⟨some ⟨g, 0, none⟩, cap, hv', hn, fun hl => ⟨g, 0, rfl, fun j x hx i u hu => ?_⟩⟩
      rw [cell_of_row w g _ cur e (0, 0) hh]
      have h1 := hget l j x hx i u hu
      have h2 := (List.getElem?_eq_some_iff.1 h1).1
      rw [hfl] at h2
      rw [← ht, List.getElem?_take, if_pos h2] at h1
      simpa [Nat.zero_add] using h1
theorem cas_flen (l : List CA) : (l.flatMap CA.cells).length = l.length * 4 := by
  induction l with
  | nil => rfl
  | cons x l ih => simp only [List.flatMap_cons, List.length_append, ih, List.length_cons, List.length_nil]; omega
theorem cas_one (l : List CA) : ∀ u ∈ l.flatMap CA.cells, u.oneCell' = true := fun u hu => by
  obtain ⟨x, _, hx⟩ := List.mem_flatMap.1 hu
  simp only [CA.cells, List.mem_cons, List.not_mem_nil, or_false] at hx
  rcases hx with rfl | rfl | rfl | rfl <;> rfl
theorem cas_flat {w : World} {A : Option Addr} {l : List CA} (h : CAsAt w A l) (hn : 0 < l.length) : ∃ ad, A = some ad ∧ ∀ j u, (l.flatMap CA.cells)[j]? = some u → w.cell? (ad.add j) = some u := by
  obtain ⟨b, o, rfl, hc⟩ := h hn
  refine ⟨_, rfl, fun j u hj => ?_⟩
  have key : ∀ (l : List CA) (j : Nat) (u : Value), (l.flatMap CA.cells)[j]? = some u → ∃ x, l[j / 4]? = some x ∧ x.cells[j % 4]? = some u := fun l => by
    induction l with
    | nil => intro j u h; simp at h
    | cons y l ih =>
      intro j u h
      rw [List.flatMap_cons] at h
      have hl : y.cells.length = 4 := rfl
      rcases Nat.lt_or_ge j 4 with h4 | h4
      · rw [List.getElem?_append_left (by omega)] at h
        refine ⟨y, ?_, ?_⟩
        · rw [show j / 4 = 0 by omega]; rfl
        · rw [show j % 4 = j by omega]; exact h
      · rw [List.getElem?_append_right (by omega), hl] at h
        obtain ⟨x, h1, h2⟩ := ih (j - 4) u h
        refine ⟨x, ?_, ?_⟩
        · rw [show j / 4 = (j - 4) / 4 + 1 by omega, List.getElem?_cons_succ]; exact h1
        · rw [show j % 4 = (j - 4) % 4 by omega]; exact h2
  obtain ⟨x, h1, h2⟩ := key l j u hj
  have h3 := hc (j / 4) x h1 (j % 4) u h2
  have h9 : o + j / 4 * 4 + j % 4 = o + j := by omega
  have : (⟨b, o, none⟩ : Addr).add j = ⟨b, o + j / 4 * 4 + j % 4, none⟩ := by rw [h9]; simp [Addr.add]
  rw [this]
  exact h3
theorem ainfo : (Try.prog.info? 28).map (fun i => (i.zero, i.size, i.bytes)) = some (some (.agg #[.int .i64 0, .int .i64 0, .int .i64 0, .int .i64 0]), 4, 32) := by kernel_rfl

theorem errI_zero {xs : List Int} {t : Int} {l : List CA} (h : errI xs t l = 0) : errL xs.length t l = 0 := by
  unfold errI at h
  split at h
  · cases h
  · split at h
    · cases h
    · exact h
theorem own_cell {w : World} {B n i : Nat} {A : Option Addr} {c : Nat} {d : List Int} {m : Int} (h : w.ownsRow B TII 1 (.slice A n c) n (d.map (Value.int .i64))) (hd : d[i]? = some m) : ∃ ad, A = some ad ∧ w.cell? (ad.add i) = some (.int .i64 m) ∧
    ∀ w1 : World, w1.ownsRow B TII 1 (.slice A n c) n (d.map (Value.int .i64)) → w1.frozen? (ad.add i) = false ∧ ∀ x, (w1.setCell (ad.add i) (.int .i64 x)).ownsRow B TII 1 (.slice A n c) n ((d.set i x).map (Value.int .i64)) ∧ B ≤ (ad.add i).block := by
  have hl := (List.getElem?_eq_some_iff.1 hd).1
  have h1 : (d.map (Value.int .i64))[i]? = some (.int .i64 m) := by rw [List.getElem?_map, hd]; rfl
  rcases h.2 with ⟨_, h0⟩ | ⟨g, cap, cur, hv, hB, _⟩
  · have := h.1; simp at this; omega
  · simp only [Value.slice.injEq] at hv
    obtain ⟨rfl, _, rfl⟩ := hv
    have ha : (⟨g, 0, none⟩ : Addr).add i = ⟨g, i, none⟩ := by simp [Addr.add] <;> omega
    refine ⟨_, rfl, ?_, fun w1 h9 => ⟨?_, fun x => ⟨?_, ?_⟩⟩⟩
    · rw [ha, World.ownsRow.cellAt h i (by have := h.1; simp at this; omega), h1]
    · rw [ha]; exact World.ownsRow.frozenAt h9 i
    · rw [ha, List.map_set]; exact (World.ownsRow.stored h9 i _).1
    · rw [ha]; exact hB

theorem below_dd {B : Nat} {w W : World} (h : Below B w W) (n m : Nat) : Below B w ((W.drewN n).drewN m) := pw_below_drewN (pw_below_drewN h n) m
theorem own_d {w : World} {B e n : Nat} {v : Value} {us : List Value} (h : w.ownsRow B e 1 v n us) (m : Nat) : (w.drewN m).ownsRow B e 1 v n us := owns_fr h (Fr.of_below0 (S := fun _ => False) (pw_below_drewN (Below.refl _ _) m)) (fun _ _ => id)
set_option maxHeartbeats 40000000 in
set_option maxRecDepth 100000 in
theorem law_identity (w : World) (A : Option Addr) (c : Nat) (xs : List Int) (hx : Row1 w A xs.length (xs.map (Value.int .i64))) (hxl : xs.length * 8 ≤ 140737488351232) (t : Int) (A' : Option Addr) (c' : Nat) (l : List CA) (hl : CAsAt w A' l) (hlc : l.length ≤ c') (hll : l.length ≤ 1000000000000000) :
    Calls Try.prog 3 #[.slice A xs.length c, .int .i64 t, .slice A' l.length c'] w fun e w' => e = .returned (.bool true) ∧ Below w.heap.size w w' := by
  refine calls_hide fun Q HQ => ?_
  have HQ' := Lib.hid HQ
  have HX := Lib.hid hx
  have HL := Lib.hid hl
  have hbA := (Below.refl w.heap.size w).alloc (Nat.le_refl _) (.cells [.int .i64 0].toArray TII)
  have hbB := hbA.alloc (by simp) (.cells (exL.flatMap CA.cells).toArray 28)
  have HB2 := Lib.hid hbB
  have h0 := Row1.of_blk (rest := []) (us := [.int .i64 0]) (by rw [List.append_nil]; exact (Blk.new w TII [.int .i64 0]).alloc (.cells (exL.flatMap CA.cells).toArray 28))
  have hbk := Blk.new (w.alloc (.cells [.int .i64 0].toArray TII)) 28 (exL.flatMap CA.cells)
  rw [show (w.alloc (.cells [.int .i64 0].toArray TII)).heap.size = w.heap.size + 1 by simp] at hbk
  have HI := Lib.hid (cell_ids ((w.alloc (.cells [.int .i64 0].toArray TII)).alloc (.cells (exL.flatMap CA.cells).toArray 28)) (some ⟨w.heap.size, 0, none⟩) 1 [0] h0 (by decide) 2 (some ⟨w.heap.size + 1, 0, none⟩) 3 exL (cas_blk hbk) (by decide))
  clear HQ hx hl hbA hbB h0 hbk
  go_enter Try.func3, Try.ntmps3
  go_wp2_with fail
  refine HI.out.mono ?_
  rintro e w3 ⟨hb3, hpp⟩
  rcases hpp with ⟨hne, _⟩ | ⟨hz0, v1, v2, v3, rfl, ho1, ho2, ho3⟩
  · exact absurd exL_err hne
  rw [exL_run] at ho1 ho2
  rw [exL_kinds] at ho3
  obtain ⟨A1, c1, rfl, hr1, _⟩ := owns_slice ho1
  obtain ⟨A2, c2, rfl, hr2, _⟩ := owns_slice ho2
  obtain ⟨A3, c3, rfl, hr3, _⟩ := owns_slice ho3
  have HB3 := Lib.hid (HB2.out.trans (hb3.mono HB2.out.size))
  have HR1 := Lib.hid (show Row1 w3 A1 3 ([0, 1, 1].map (Value.int .i64)) from hr1)
  have HR2 := Lib.hid (show Row1 w3 A2 1 ([1].map (Value.int .i64)) from hr2)
  have HR3 := Lib.hid (show Row1 w3 A3 3 ([5, 5, 1].map (Value.int .i64)) from hr3)
  have hq1 : exL.length = 3 := rfl
  have hq2 : ([0] : List Int).length = 1 := rfl
  rw [hq1, hq2]
  clear hz0 HI hb3 ho1 ho2 ho3 hr1 hr2 hr3 HB2 hq1 hq2
  go_wp2_with fail
  refine (top_same_lit A1 c1 [0, 1, 1] w3 (by decide) HR1.out).mono ?_
  rintro e w4 ⟨rfl, hb4⟩
  have HB4 := Lib.hid (HB3.out.trans (hb4.mono HB3.out.size))
  have HR24 := Lib.hid (HR2.out.below hb4)
  have HR34 := Lib.hid (HR3.out.below hb4)
  clear hb4 HR1 HR2 HR3 HB3
  go_wp2_with fail
  refine (top_same_lit A2 c2 [1] w4 (by decide) HR24.out).mono ?_
  rintro e w5 ⟨rfl, hb5⟩
  have HB5 := Lib.hid (HB4.out.trans (hb5.mono HB4.out.size))
  have HR35 := Lib.hid (HR34.out.below hb5)
  clear hb5 HR24 HR34 HB4
  go_wp2_with fail
  refine (top_same_lit A3 c3 [5, 5, 1] w5 (by decide) HR35.out).mono ?_
  rintro e w6 ⟨rfl, hb6⟩
  have HB6 := Lib.hid (HB5.out.trans (hb6.mono HB5.out.size))
  clear hb6 HR35 HB5
  go_upto_if 47 with (fail)
  go_cut [2] (fun s2 wc => ∃ l2 : List CA, l2.length ≤ 200 ∧ s2 = .slice A' l2.length c' ∧ Below w.heap.size w wc ∧ CAsAt w A' l2)
  case first =>
    by_cases h200 : 200 < l.length
    · go_wp2
      go_meet
      case rel => exact ⟨l.take 200, by simp; omega, by rw [List.length_take, Nat.min_eq_left (by omega)], HB6.out, HL.out.take 200⟩
    · go_wp2
      go_meet
      case rel => exact ⟨l, by omega, rfl, HB6.out, HL.out⟩
  case rest =>
    clear HB6 HL hll hlc
    obtain ⟨l2, hl2, rfl, hbc, hca⟩ := hcut
    have HBc := Lib.hid hbc
    have HL2 := Lib.hid hca
    clear hbc hca
    go_wp2_with fail
    refine (top_copyInts wc A c xs (HX.out.below HBc.out) (by omega)).mono ?_
    rintro e w5 ⟨va, rfl, hoa, hba⟩
    obtain ⟨Aa, ca, rfl, hra, _⟩ := owns_slice hoa
    have HRA := Lib.hid hra
    have HB5 := Lib.hid (HBc.out.trans (hba.mono HBc.out.size))
    have HL5 := Lib.hid (HL2.out.below HB5.out)
    clear hoa hba hra HBc HL2
    go_wp2_with (at_builtin; refine print_append_spread (W := w5) rfl _ _ 23 28 _ 4 32 (by decide) rfl Try.underlying23 ainfo rfl (A := A') (n := l2.length) (c := c') (us := l2.flatMap CA.cells) rfl rfl ⟨cas_flen _, fun h => cas_flat (HL5.out.below ((Below.refl w5.heap.size w5).alloc (Nat.le_refl _) _)) h⟩ (cas_one _) (by simp only [maxLen]; omega) (by omega) ?_)
    intro v4 w7 ho7 hb7
    obtain ⟨A4, c4, rfl, _, hca⟩ := own_cas ho7
    have HB7 := Lib.hid (HB5.out.trans (hb7.mono HB5.out.size))
    have HI := Lib.hid (cell_ids w7 Aa ca xs (HRA.out.below hb7) (by omega) t A4 c4 l2 hca (by omega))
    have HL7 := Lib.hid (HL5.out.below hb7)
    clear ho7 hb7 hca HRA HB5 HL5
    go_wp2_with fail
    refine HI.out.mono ?_
    rintro e w8 ⟨hb8, hpp⟩
    have HB8 := Lib.hid (HB7.out.trans (hb8.mono HB7.out.size))
    have HL8 := Lib.hid (HL7.out.below hb8)
    clear hb8 HB7 HL7 HI
    rcases hpp with ⟨hne, rfl⟩ | ⟨hz, v1, v2, v3, rfl, ho1, ho2, ho3⟩
    · have HNE := Lib.hid hne
      generalize errI xs t l2 = er at *
      clear HL8
      go_wp2
      exact HQ'.out _ _ ⟨rfl, HB8.out⟩
    · obtain ⟨B1, d1, rfl, hr1, _⟩ := owns_slice ho1
      obtain ⟨B2, d2, rfl, hr2, _⟩ := owns_slice ho2
      obtain ⟨B3, d3, rfl, hr3, _⟩ := owns_slice ho3
      have HR1 := Lib.hid hr1
      have HR2 := Lib.hid hr2
      have HR3 := Lib.hid hr3
      have HZ := Lib.hid hz
      clear ho1 ho2 ho3 hr1 hr2 hr3 hz
      go_wp2_with fail
      refine (top_copyInts w8 A c xs (HX.out.below HB8.out) (by omega)).mono ?_
      rintro e w9 ⟨vn, rfl, hon, hbn⟩
      obtain ⟨An, cn, rfl, _, _⟩ := owns_slice hon
      have HBN := Lib.hid hbn
      have HON := Lib.hid hon
      clear hon hbn
      go_wp2_with fail
      go_loopw [93] (fun k wz => ∃ j : Nat, j ≤ l2.length ∧ k = .int .i64 j ∧ Below w8.heap.size w8 wz ∧ wz.ownsRow w8.heap.size TII 1 (.slice An xs.length cn) xs.length ((runI xs (l2.take j)).2.map (Value.int .i64))) (fun k _ => l2.length - (intOf k).toNat)
      case atStart => exact ⟨0, Nat.zero_le _, rfl, HBN.out, by simpa [runI] using HON.out⟩
      case round =>
        clear HBN HON
        obtain ⟨j, hj, rfl, hbr, hor⟩ := hrel
        by_cases hltj : j < l2.length
        · obtain ⟨x, hx⟩ : ∃ x, l2[j]? = some x := ⟨_, List.getElem?_eq_getElem hltj⟩
          obtain ⟨hk, h0, h1, hf⟩ := errX_zero (errL_zero (errI_zero HZ.out) x (List.mem_of_getElem? hx))
          obtain ⟨d, hdl, hod, HNX, hans⟩ : ∃ d : List Int, d.length = xs.length ∧ wr.ownsRow w8.heap.size TII 1 (.slice An xs.length cn) xs.length (d.map (Value.int .i64)) ∧
              Hid (∀ w' : World, w'.ownsRow w8.heap.size TII 1 (.slice An xs.length cn) xs.length ((stepI d x).2.map (Value.int .i64)) → w'.ownsRow w8.heap.size TII 1 (.slice An xs.length cn) xs.length ((runI xs (l2.take (j + 1))).2.map (Value.int .i64))) ∧ (runI xs l2).1[j]? = some (stepI d x).1 :=
            ⟨_, (runI_length _ _).2, hor, Lib.hid (fun w' h => by rw [runI_take xs l2 j x hx]; exact h), runI_pre xs l2 j x hx⟩
          obtain ⟨b0, o0, hA4, q0, q1, q2, q3⟩ := (HL8.out.below hbr).at_ hx
          obtain ⟨ad1, hB1, e1⟩ := (HR1.out.below hbr).at_ (j := j) (u := .int .i64 (stepI d x).1) (by rw [List.getElem?_map, hans]; rfl)
          obtain ⟨ad3, hB3, e3⟩ := (HR3.out.below hbr).at_ (j := j) (u := .int .i64 x.k) (by rw [List.getElem?_map]; unfold kindsI; rw [List.getElem?_map, hx]; rfl)
          subst hA4 hB1 hB3
          obtain ⟨k, at_, a, b⟩ := x
          simp only at hk h0 h1 hf q0 q1 q2 q3 e3
          obtain ⟨i, rfl⟩ : ∃ i : Nat, at_ = i := ⟨at_.toNat, by omega⟩
          obtain ⟨n, hn⟩ : ∃ n, d[i]? = some n := ⟨_, List.getElem?_eq_getElem (by omega)⟩
          obtain ⟨adn, rfl, en, hset⟩ := own_cell hod hn
          have HSET := Lib.hid hset
          have HOD := Lib.hid hod
          have hba := (Below.refl wr.heap.size wr).alloc (Nat.le_refl _) (.cells #[.int .i64 k, .int .i64 (i : Int), .int .i64 a, .int .i64 b] 28)
          have hbk := Blk.new wr 28 [.int .i64 k, .int .i64 (i : Int), .int .i64 a, .int .i64 b]
          have g0 := hbk.cell 0
          have g1 := hbk.cell 1
          have g2 := hbk.cell 2
          have g3 := hbk.cell 3
          simp only [List.getElem?_cons_zero, List.getElem?_cons_succ] at g0 g1 g2 g3
          have HWA := Lib.hid (show Below w8.heap.size w8 (wr.alloc (.cells #[.int .i64 k, .int .i64 (i : Int), .int .i64 a, .int .i64 b] 28)) from hbr.trans (hba.mono hbr.size))
          have p1 := pw_cell_below hba e1
          have p3 := pw_cell_below hba e3
          have pn := pw_cell_below hba en
          have po := owns_fr hod (Fr.of_below0 (S := fun _ => False) hba) (fun _ _ => id)
          have HPO := Lib.hid po
          have hgd : d[i]?.getD 0 = n := by rw [hn]; rfl
          have HDN := Lib.hid hn
          have hij : (i : Int) < (xs.length : Int) := h1
          have hjj : (j : Int) < (l2.length : Int) := by omega
          have cb1 : decide (xs.length ≤ i) = false := decide_eq_false (by omega)
          clear hbr hor hod hset hba hbk h0 h1 hx hans e1 e3 en po hn
          have hfz := (HSET.out _ HPO.out).1
          rcases hk with rfl | rfl | rfl | rfl
          · have HST := Lib.hid (show stepI d ⟨1, (i : Int), a, b⟩ = (n, d) by unfold stepI; simp [hgd])
            rw [show (stepI d ⟨1, (i : Int), a, b⟩).1 = n by rw [HST.out]] at p1
            clear hgd hf
            clear hfz
            go_wp2
            go_quiet (fail)
            go_wp2
            go_quiet (fail)
            go_wp2
            go_roundw
            case rel =>
              refine ⟨j + 1, by omega, by go_num, ?_, HNX.out _ ?_⟩
              · first | exact HWA.out | exact pw_below_drewN HWA.out _ | exact pw_below_drewN (pw_below_drewN HWA.out _) _ | exact pw_below_drewN (pw_below_drewN (pw_below_drewN HWA.out _) _) _
              · rw [HST.out]
                first | exact HPO.out | exact owns_fr HPO.out (Fr.of_below0 (S := fun _ => False) (pw_below_drewN (Below.refl _ _) _)) (fun _ _ => id) | exact owns_fr HPO.out (Fr.of_below0 (S := fun _ => False) (pw_below_drewN (pw_below_drewN (Below.refl _ _) _) _)) (fun _ _ => id)
            case measure => simp [intOf]; omega
          · have HST := Lib.hid (show stepI d ⟨2, (i : Int), a, b⟩ = (0, d.set i a) by unfold stepI; simp)
            have HSTO := Lib.hid (fun (wz : World) (hW : Below w8.heap.size w8 wz) (hO : wz.ownsRow w8.heap.size TII 1 (.slice (some adn) xs.length cn) xs.length (d.map (Value.int .i64))) =>
              (⟨hW.trans ((Fr.refl wz (fun k => k = (adn.add i).block)).setCell (adn.add i) (.int .i64 a) (fun _ => rfl) |>.below hW.size (fun k hk => hk ▸ ((HSET.out wz hO).2 a).2)), ((HSET.out wz hO).2 a).1⟩ :
                Below w8.heap.size w8 (wz.setCell (adn.add i) (.int .i64 a)) ∧ (wz.setCell (adn.add i) (.int .i64 a)).ownsRow w8.heap.size TII 1 (.slice (some adn) xs.length cn) xs.length ((d.set i a).map (Value.int .i64))))
            clear hgd hf
            go_wp2
            go_quiet (fail)
            go_wp2
            go_roundw
            case rel =>
              refine ⟨j + 1, by omega, by go_num, ?_, HNX.out _ ?_⟩
              · first
                  | exact (HSTO.out _ (pw_below_drewN HWA.out _) (own_d HPO.out _)).1
                  | exact (HSTO.out _ (below_dd HWA.out _ _) (own_d (own_d HPO.out _) _)).1
                  | exact (HSTO.out _ (pw_below_drewN (below_dd HWA.out _ _) _) (own_d (own_d (own_d HPO.out _) _) _)).1
              · rw [HST.out]
                first
                  | exact (HSTO.out _ (pw_below_drewN HWA.out _) (own_d HPO.out _)).2
                  | exact (HSTO.out _ (below_dd HWA.out _ _) (own_d (own_d HPO.out _) _)).2
                  | exact (HSTO.out _ (pw_below_drewN (below_dd HWA.out _ _) _) (own_d (own_d (own_d HPO.out _) _) _)).2
            case measure => simp [intOf]; omega
          · have HST := Lib.hid (show stepI d ⟨4, (i : Int), a, b⟩ = (n, d.set i a) by unfold stepI; simp [hgd])
            rw [show (stepI d ⟨4, (i : Int), a, b⟩).1 = n by rw [HST.out]] at p1
            have HSTO := Lib.hid (fun (wz : World) (hW : Below w8.heap.size w8 wz) (hO : wz.ownsRow w8.heap.size TII 1 (.slice (some adn) xs.length cn) xs.length (d.map (Value.int .i64))) =>
              (⟨hW.trans ((Fr.refl wz (fun k => k = (adn.add i).block)).setCell (adn.add i) (.int .i64 a) (fun _ => rfl) |>.below hW.size (fun k hk => hk ▸ ((HSET.out wz hO).2 a).2)), ((HSET.out wz hO).2 a).1⟩ :
                Below w8.heap.size w8 (wz.setCell (adn.add i) (.int .i64 a)) ∧ (wz.setCell (adn.add i) (.int .i64 a)).ownsRow w8.heap.size TII 1 (.slice (some adn) xs.length cn) xs.length ((d.set i a).map (Value.int .i64))))
            clear hgd hf
            go_wp2
            go_quiet (fail)
            go_wp2
            go_quiet (fail)
            go_wp2
            go_roundw
            case rel =>
              refine ⟨j + 1, by omega, by go_num, ?_, HNX.out _ ?_⟩
              · first
                  | exact (HSTO.out _ (pw_below_drewN HWA.out _) (own_d HPO.out _)).1
                  | exact (HSTO.out _ (below_dd HWA.out _ _) (own_d (own_d HPO.out _) _)).1
                  | exact (HSTO.out _ (pw_below_drewN (below_dd HWA.out _ _) _) (own_d (own_d (own_d HPO.out _) _) _)).1
              · rw [HST.out]
                first
                  | exact (HSTO.out _ (pw_below_drewN HWA.out _) (own_d HPO.out _)).2
                  | exact (HSTO.out _ (below_dd HWA.out _ _) (own_d (own_d HPO.out _) _)).2
                  | exact (HSTO.out _ (pw_below_drewN (below_dd HWA.out _ _) _) (own_d (own_d (own_d HPO.out _) _) _)).2
            case measure => simp [intOf]; omega
          · by_cases hna : n = a
            · subst hna
              have HST := Lib.hid (show stepI d ⟨5, (i : Int), n, b⟩ = (1, d.set i b) by unfold stepI; simp [hgd])
              rw [show (stepI d ⟨5, (i : Int), n, b⟩).1 = 1 by rw [HST.out]] at p1
              have HSTO := Lib.hid (fun (wz : World) (hW : Below w8.heap.size w8 wz) (hO : wz.ownsRow w8.heap.size TII 1 (.slice (some adn) xs.length cn) xs.length (d.map (Value.int .i64))) =>
                (⟨hW.trans ((Fr.refl wz (fun k => k = (adn.add i).block)).setCell (adn.add i) (.int .i64 b) (fun _ => rfl) |>.below hW.size (fun k hk => hk ▸ ((HSET.out wz hO).2 b).2)), ((HSET.out wz hO).2 b).1⟩ :
                  Below w8.heap.size w8 (wz.setCell (adn.add i) (.int .i64 b)) ∧ (wz.setCell (adn.add i) (.int .i64 b)).ownsRow w8.heap.size TII 1 (.slice (some adn) xs.length cn) xs.length ((d.set i b).map (Value.int .i64))))
              clear hgd hf
              go_wp2
              go_quiet (fail)
              go_wp2
              go_quiet (fail)
              go_wp2
              go_quiet (fail)
              go_wp2
              go_roundw
              case rel =>
                refine ⟨j + 1, by omega, by go_num, ?_, HNX.out _ ?_⟩
                · first
                    | exact (HSTO.out _ (pw_below_drewN HWA.out _) (own_d HPO.out _)).1
                    | exact (HSTO.out _ (below_dd HWA.out _ _) (own_d (own_d HPO.out _) _)).1
                    | exact (HSTO.out _ (pw_below_drewN (below_dd HWA.out _ _) _) (own_d (own_d (own_d HPO.out _) _) _)).1
                · rw [HST.out]
                  first
                    | exact (HSTO.out _ (pw_below_drewN HWA.out _) (own_d HPO.out _)).2
                    | exact (HSTO.out _ (below_dd HWA.out _ _) (own_d (own_d HPO.out _) _)).2
                    | exact (HSTO.out _ (pw_below_drewN (below_dd HWA.out _ _) _) (own_d (own_d (own_d HPO.out _) _) _)).2
              case measure => simp [intOf]; omega
            · have HST := Lib.hid (show stepI d ⟨5, (i : Int), a, b⟩ = (0, d) by unfold stepI; simp [hgd, hna])
              rw [show (stepI d ⟨5, (i : Int), a, b⟩).1 = 0 by rw [HST.out]] at p1
              have hbe : (n == a) = false := by simpa using hna
              clear hgd hf
              go_wp2
              go_quiet (fail)
              go_wp2
              go_quiet (fail)
              go_wp2
              go_quiet (fail)
              go_wp2
              go_roundw
              case rel =>
                refine ⟨j + 1, by omega, by go_num, ?_, HNX.out _ ?_⟩
                · first | exact pw_below_drewN HWA.out _ | exact below_dd HWA.out _ _ | exact pw_below_drewN (below_dd HWA.out _ _) _
                · rw [HST.out]
                  first | exact own_d HPO.out _ | exact own_d (own_d HPO.out _) _ | exact own_d (own_d (own_d HPO.out _) _) _
              case measure => simp [intOf]; omega
        · have hje : j = l2.length := by omega
          subst hje
          rw [List.take_length] at hor
          obtain ⟨An', cn', hv, hrn, _⟩ := owns_slice hor
          simp only [Value.slice.injEq] at hv
          obtain ⟨rfl, _, rfl⟩ := hv
          have HRN := Lib.hid hrn
          have HBR := Lib.hid hbr
          have HR2' := Lib.hid (HR2.out.below hbr)
          have hl9 := (runI_length xs l2).2
          have HS := Lib.hid (top_same B2 d2 xs.length (runI xs l2).2 An cn wr hl9 (by omega) HR2'.out HRN.out)
          clear hor hrn hbr hl9
          go_wp2_with fail
          refine HS.out.mono ?_
          rintro e w' ⟨rfl, m, rfl⟩
          have HF := Lib.hid (show Below w.heap.size w (wr.drewN m) from pw_below_drewN (HB8.out.trans (HBR.out.mono HB8.out.size)) m)
          go_wp2
          exact HQ'.out _ _ ⟨rfl, HF.out⟩
end Go.Proofs.Ytoeaoeekjabaaaa
