/- larchref12: Same, of worlds that are alike. -/
import Derived.Test.YtphhdmopfmelbaaRef12A
namespace Go.Proofs.Ytphhdmopfmelbaa
open Go.RowKit Go.Proofs.YtphhdmopfmelbaaW.PrintWords
set_option linter.unusedVariables false
set_option linter.unusedSimpArgs false

abbrev TRW : Nat := 43
theorem same_ints (A : Option Addr) (c : Nat) (xs : List Int) (A' : Option Addr) (c' : Nat) (w : World) (hr : Row1 w A xs.length (xs.map (Value.int .i64))) (hr' : Row1 w A' xs.length (xs.map (Value.int .i64))) (hl : xs.length ≤ 1000000000000) :
    Calls Try.prog 21 #[.slice A xs.length c, .slice A' xs.length c'] w fun e w' => e = .returned (.bool true) ∧ ∃ m, w' = w.drewN m := by
  have := ref_SameInts A c xs A' c' xs w hr hr' hl
  rwa [decide_eq_true rfl] at this
theorem same_bools (A : Option Addr) (c : Nat) (xs : List Bool) (A' : Option Addr) (c' : Nat) (w : World) (hr : Row1 w A xs.length (xs.map Value.bool)) (hr' : Row1 w A' xs.length (xs.map Value.bool)) (hl : xs.length ≤ 1000000000000) :
    Calls Try.prog 47 #[.slice A xs.length c, .slice A' xs.length c'] w fun e w' => e = .returned (.bool true) ∧ ∃ m, w' = w.drewN m := by
  have := ref_SameBools A c xs A' c' xs w hr hr' hl
  rwa [decide_eq_true rfl] at this

set_option maxHeartbeats 2000000 in
set_option maxRecDepth 100000 in
theorem ref_Same (w : World) (v v' : WV) (d : WD) (hv : v.Reads w d) (hv' : v'.Reads w d) (l0 : d.fields.length ≤ 1000000000) (l1 : d.infos.length ≤ 1000000000) (l2 : d.marks.length ≤ 1000000000) (l3 : d.states.length ≤ 1000000000) (l4 : d.frozen.length ≤ 1000000000) (hr : ∀ r ∈ d.fields, r.length ≤ 1000000000) :
    Calls Try.prog 22 #[v.val d, v'.val d] w fun e w' => e = .returned (.bool true) ∧ Below w.heap.size w w' := by
  refine calls_hide fun Q HQ => ?_
  have HQ' := Lib.hid HQ
  have HV := Lib.hid hv
  have HV' := Lib.hid hv'
  have HRr := Lib.hid hr
  have hba := ((Below.refl w.heap.size w).alloc (Nat.le_refl _) (.cells (v.cells d).toArray TRW)).alloc (by simp) (.cells (v'.cells d).toArray TRW)
  have hb1 := (Blk.new w TRW (v.cells d)).alloc (.cells (v'.cells d).toArray TRW)
  have hb2 := Blk.new (w.alloc (.cells (v.cells d).toArray TRW)) TRW (v'.cells d)
  rw [World.size_alloc] at hb2
  have HBA := Lib.hid hba
  have HB1 := Lib.hid hb1
  have HB2 := Lib.hid (show Blk ((w.alloc (.cells (v.cells d).toArray TRW)).alloc (.cells (v'.cells d).toArray TRW)) (w.heap.size + 1) TRW (v'.cells d) from hb2)
  have hc0 := hb1.cell 0
  have hc1 := hb1.cell 1
  have hc2 := hb1.cell 2
  have hc3 := hb1.cell 3
  have hc4 := hb1.cell 4
  have hd0 := hb2.cell 0
  have hd1 := hb2.cell 1
  have hd2 := hb2.cell 2
  have hd3 := hb2.cell 3
  have hd4 := hb2.cell 4
  simp only [List.getElem?_cons_zero, List.getElem?_cons_succ] at hc0 hc1 hc2 hc3 hc4 hd0 hd1 hd2 hd3 hd4
  clear HQ hv hv' hr hba hb1 hb2
  go_enter Try.func22, Try.ntmps22
  go_wp2_with fail
  generalize (w.alloc (.cells (v.cells d).toArray TRW)).alloc (.cells (v'.cells d).toArray TRW) = wA at *
  have hS1 := same_ints v.A1 v.c1 d.infos v'.A1 v'.c1 wA ((row1_of_C HV.out.h1).below HBA.out) ((row1_of_C HV'.out.h1).below HBA.out) (by omega)
  refine hS1.mono ?_
  rintro e w1 ⟨rfl, m1, rfl⟩
  have HS2 := Lib.hid (fun m => same_bools v.A2 v.c2 d.marks v'.A2 v'.c2 (wA.drewN m) ((row1_of_C HV.out.h2).below (pw_below_drewN HBA.out _)) ((row1_of_C HV'.out.h2).below (pw_below_drewN HBA.out _)) (by omega))
  have HS3 := Lib.hid (fun m => same_ints v.A3 v.c3 d.states v'.A3 v'.c3 (wA.drewN m) ((row1_of_C HV.out.h3).below (pw_below_drewN HBA.out _)) ((row1_of_C HV'.out.h3).below (pw_below_drewN HBA.out _)) (by omega))
  have HS4 := Lib.hid (fun m => same_bools v.A4 v.c4 d.frozen v'.A4 v'.c4 (wA.drewN m) ((row1_of_C HV.out.h4).below (pw_below_drewN HBA.out _)) ((row1_of_C HV'.out.h4).below (pw_below_drewN HBA.out _)) (by omega))
  clear hS1
  go_wp2_with fail
  refine (HS2.out m1).mono ?_
  rintro e w1 ⟨rfl, m2, rfl⟩
  rw [World.drewN_drewN]
  generalize m1 + m2 = m3
  clear HS2
  go_wp2_with fail
  refine (HS3.out m3).mono ?_
  rintro e w1 ⟨rfl, m4, rfl⟩
  rw [World.drewN_drewN]
  generalize m3 + m4 = m5
  clear HS3
  go_wp2_with fail
  refine (HS4.out m5).mono ?_
  rintro e w1 ⟨rfl, m6, rfl⟩
  rw [World.drewN_drewN]
  generalize m5 + m6 = m7
  clear HS4 hc1 hc2 hc3 hc4 hd1 hd2 hd3 hd4
  go_wp2
  go_loopw [5] (fun k wr => ∃ j : Nat, j ≤ d.fields.length ∧ k = .int .i64 j ∧ ∃ m, wr = wA.drewN m) (fun k _ => d.fields.length - (intOf k).toNat)
  case atStart => exact ⟨0, Nat.zero_le _, rfl, m7, rfl⟩
  case round =>
    obtain ⟨j, hj, rfl, m, rfl⟩ := hrel
    by_cases hlt : j < d.fields.length
    · obtain ⟨ad, hA, A1, c1, he0, _, hrow⟩ := row_at HV.out.h0 hlt
      obtain ⟨ad', hA', A1', c1', he0', _, hrow'⟩ := row_at HV'.out.h0 hlt
      have hbz := pw_below_drewN HBA.out m
      have hz0 : (wA.drewN m).cell? ⟨w.heap.size, 0, none⟩ = some (.slice v.A0 d.fields.length v.c0) := hc0
      have hz1 : (wA.drewN m).cell? ⟨w.heap.size + 1, 0, none⟩ = some (.slice v'.A0 d.fields.length v'.c0) := hd0
      generalize hwz : wA.drewN m = wz at *
      have HWZ := Lib.hid hwz
      have he := pw_cell_below hbz he0
      have he' := pw_cell_below hbz he0'
      have hl := HRr.out _ (List.getElem_mem hlt)
      have HS := Lib.hid (fun n => same_ints A1 c1 d.fields[j] A1' c1' (wz.drewN n) ((row1_of_C hrow).below (pw_below_drewN hbz _)) ((row1_of_C hrow').below (pw_below_drewN hbz _)) (by omega))
      generalize d.fields[j] = row at *
      obtain ⟨A0, c0, _, _, _, _, _, _, _, _⟩ := v
      obtain ⟨A0', c0', _, _, _, _, _, _, _, _⟩ := v'
      simp only at hA hA' hz0 hz1
      subst hA hA'
      clear he0 he0' hrow hrow' hwz hc0 hd0 hbz
      go_wp2
      go_quiet ((go_at_call 21; exact Calls.quiet_of (HS.out _)))
      go_wp2
      go_roundw
      case rel => exact ⟨j + 1, by omega, by go_num, m + nq, by rw [← HWZ.out, World.drewN_drewN]⟩
      case measure => simp [intOf]; omega
    · go_wp2
      exact HQ'.out _ _ ⟨rfl, pw_below_drewN HBA.out _⟩
end Go.Proofs.Ytphhdmopfmelbaa
