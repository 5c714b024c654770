/- record: form. -/
import Derived.Test.YtphhdmopfmelbaaRecForm
namespace Go.Proofs.Ytphhdmopfmelbaa
open Go.RowKit Go.Proofs.YtphhdmopfmelbaaW.PrintWords
set_option linter.unusedVariables false
set_option linter.unusedSimpArgs false

/-- In form? By parts: a row of fields, an info, the states. -/
def rowB (d : WD) (r : List Int) : Bool := r.any (fun n => !inD n (-1) d.fields.length)
def infoB (d : WD) (i : Nat) : Bool := inD (d.infos.getD i 0) (-1) d.states.length
def formB (d : WD) : Prop := d.infos.length = d.fields.length ∧ d.marks.length = d.fields.length ∧ d.frozen.length = d.states.length ∧ (∀ i, i < d.fields.length → infoB d i = true ∧ rowB d (d.fields.getD i []) = false) ∧ d.states.any (fun n => !inD n 0 3) = false
instance (d : WD) : Decidable (formB d) := by unfold formB; infer_instance
def formD (d : WD) : Int := if formB d then 0 else 3

set_option maxHeartbeats 2000000 in
set_option maxRecDepth 100000 in
theorem rec_form (w : World) (v : WV) (d : WD) (hv : v.Reads w d) (hl : d.fields.length < 1000000000000) (hl3 : d.states.length < 1000000000000) (hr : ∀ r ∈ d.fields, r.length < 1000000000000) :
    Calls Try.prog 38 #[v.val d] w fun e w' => e = .returned (.int .i64 (formD d)) ∧ Below w.heap.size w w' := by
  refine calls_hide fun Q HQ => ?_
  have HQ' := Lib.hid HQ
  have HV := Lib.hid hv
  have HR := Lib.hid hr
  have HB := Lib.hid (fun o => (Below.refl w.heap.size w).alloc (Nat.le_refl _) o)
  clear HQ hv hr
  by_cases e1 : d.infos.length = d.fields.length
  case neg =>
    have hs : formD d = 3 := by unfold formD; rw [if_neg (fun h => e1 h.1)]
    rw [hs] at HQ'
    go_enter Try.func38, Try.ntmps38
    go_wp2
    exact HQ'.out _ _ ⟨rfl, HB.out _⟩
  by_cases e2 : d.marks.length = d.fields.length
  case neg =>
    have hs : formD d = 3 := by unfold formD; rw [if_neg (fun h => e2 h.2.1)]
    rw [hs] at HQ'
    go_enter Try.func38, Try.ntmps38
    go_wp2
    exact HQ'.out _ _ ⟨rfl, HB.out _⟩
  by_cases e4 : d.frozen.length = d.states.length
  case neg =>
    have hs : formD d = 3 := by unfold formD; rw [if_neg (fun h => e4 h.2.2.1)]
    rw [hs] at HQ'
    go_enter Try.func38, Try.ntmps38
    go_wp2
    exact HQ'.out _ _ ⟨rfl, HB.out _⟩
  have HE1 := Lib.hid (show ∀ i, i < d.fields.length → infoB d i = false → formD d = 3 from fun i hi h => by unfold formD; rw [if_neg (fun k => by have := (k.2.2.2.1 i hi).1; rw [h] at this; cases this)])
  have HE2 := Lib.hid (show ∀ i, i < d.fields.length → rowB d (d.fields.getD i []) = true → formD d = 3 from fun i hi h => by unfold formD; rw [if_neg (fun k => by have := (k.2.2.2.1 i hi).2; rw [h] at this; cases this)])
  have HE3 := Lib.hid (show d.states.any (fun n => !inD n 0 3) = true → formD d = 3 from fun h => by unfold formD; rw [if_neg (fun k => by have := k.2.2.2.2; rw [h] at this; cases this)])
  have HE4 := Lib.hid (show (∀ i, i < d.fields.length → infoB d i = true ∧ rowB d (d.fields.getD i []) = false) → d.states.any (fun n => !inD n 0 3) = false → formD d = 0 from fun h1 h2 => by unfold formD; rw [if_pos ⟨e1, e2, e4, h1, h2⟩])
  have E1 := Lib.hid e1
  go_enter Try.func38, Try.ntmps38
  go_wp2
  go_loopw [33] (fun k wr => ∃ j : Nat, j ≤ d.fields.length ∧ k = .int .i64 j ∧ (∀ i, i < j → infoB d i = true ∧ rowB d (d.fields.getD i []) = false) ∧ Below w.heap.size w wr ∧ Blk wr w.heap.size TWD (v.cells d)) (fun k _ => d.fields.length - (intOf k).toNat)
  case atStart => exact ⟨0, Nat.zero_le _, rfl, fun i hi => absurd hi (Nat.not_lt_zero i), HB.out _, by simp only [WV.cells, e1, e2, e4]; exact Blk.new w TWD _⟩
  case round =>
    obtain ⟨j, hj, rfl, hok, hb, hk⟩ := hrel
    have HOK := Lib.hid hok
    have HW := Lib.hid hb
    have HK2 := Lib.hid hk
    clear hok hb hk
    have hc3 : wr.cell? ⟨w.heap.size, 3, none⟩ = some (.slice v.A3 d.states.length v.c3) := HK2.out.cell 3
    by_cases hlt : j < d.fields.length
    · obtain ⟨ad, A', c', hA, hcr0⟩ := row_at' HV.out.h0 hlt
      have hcr := pw_cell_below HW.out hcr0
      obtain ⟨ad0, hA0, A0', c0', hcr1, _, hrow⟩ := row_at HV.out.h0 hlt
      obtain ⟨ad1, hA1, hci⟩ := int_at HV.out.h1 (j := j) (by rw [E1.out]; exact hlt)
      have hrl := HR.out _ (getD_mem hlt [])
      have hgi : d.infos.getD j 0 = d.infos[j]'(by rw [E1.out]; exact hlt) := by simp [List.getD_eq_getElem?_getD, List.getElem?_eq_getElem (show j < d.infos.length by rw [E1.out]; exact hlt)]
      rw [← hgi] at hci
      have hcn := pw_cell_below HW.out hci
      have hgr : d.fields.getD j [] = d.fields[j] := by simp [List.getD_eq_getElem?_getD, List.getElem?_eq_getElem hlt]
      have hAA : A0' = A' := by
        rw [hA] at hA0; cases hA0
        rw [hcr0] at hcr1; exact (Value.slice.inj (Option.some.inj hcr1)).1.symm
      subst hAA
      rw [← hgr] at hrow
      have HROW := Lib.hid ((row1_of_C hrow).below HW.out)
      have hc0 : wr.cell? ⟨w.heap.size, 0, none⟩ = some (.slice v.A0 d.fields.length v.c0) := HK2.out.cell 0
      have hc1 : wr.cell? ⟨w.heap.size, 1, none⟩ = some (.slice v.A1 d.infos.length v.c1) := HK2.out.cell 1
      have HC0 := Lib.hid hc0
      have HI1 := Lib.hid (HE1.out j hlt)
      have HI2 := Lib.hid (HE2.out j hlt)
      have HNX := Lib.hid (show infoB d j = true → rowB d (d.fields.getD j []) = false → ∀ i, i < j + 1 → infoB d i = true ∧ rowB d (d.fields.getD i []) = false from fun h1 h2 i hi => by
        rcases Nat.lt_or_ge i j with h | h
        · exact HOK.out i h
        · have : i = j := by omega
          subst this; exact ⟨h1, h2⟩)
      unfold infoB at HI1 HNX
      unfold rowB at HI2 HNX
      clear hcr0 hcr1 hci hgi hgr hrow hA0
      generalize d.fields.getD j [] = row at *
      generalize d.infos.getD j 0 = n at *
      obtain ⟨A0, c0, A1, c1, A2, c2, A3, c3, A4, c4⟩ := v
      simp only at hA hA1 hc0 hc1 hc3
      subst hA hA1
      have he1 := E1.out
      cases h1 : inD n (-1) d.states.length with
      | false =>
        have hs := HI1.out h1
        rw [hs] at HQ'
        go_wp2
        go_quiet ((go_at_call 81; refine Calls.quiet_of_same (calls_swap (rec_within _ _ _ _))))
        go_wp2
        exact HQ'.out _ _ ⟨rfl, pw_below_drewN HW.out _⟩
      | true =>
        cases h2 : row.any (fun n => !inD n (-1) d.fields.length) with
        | true =>
          have hs := HI2.out h2
          rw [hs] at HQ'
          have HA := Lib.hid (show ∀ m, Calls Try.prog 82 #[.slice A0' row.length c', .func (.func 83) #[] #[.pointer (some ⟨w.heap.size, 0, none⟩)]] (wr.drewN m) fun e w' => e = .returned (.bool true) ∧ w' = wr.drewN m from fun m => by
            rw [← h2]
            exact calls_swap (containsfunc_1 w.heap.size d.fields.length (some ad) c0 A0' c' row (wr.drewN m) HROW.out (by omega) HC0.out))
          clear h2 hs
          go_wp2
          go_quiet (first | (go_at_call 81; refine Calls.quiet_of_same (calls_swap (rec_within _ _ _ _))) | (go_at_call 82; refine Calls.quiet_of_same (HA.out _)))
          go_wp2
          exact HQ'.out _ _ ⟨rfl, pw_below_drewN HW.out _⟩
        | false =>
          have HA := Lib.hid (show ∀ m, Calls Try.prog 82 #[.slice A0' row.length c', .func (.func 83) #[] #[.pointer (some ⟨w.heap.size, 0, none⟩)]] (wr.drewN m) fun e w' => e = .returned (.bool false) ∧ w' = wr.drewN m from fun m => by
            rw [← h2]
            exact calls_swap (containsfunc_1 w.heap.size d.fields.length (some ad) c0 A0' c' row (wr.drewN m) HROW.out (by omega) HC0.out))
          have HH := Lib.hid (HNX.out h1 h2)
          clear h2
          go_wp2
          go_quiet (first | (go_at_call 81; refine Calls.quiet_of_same (calls_swap (rec_within _ _ _ _))) | (go_at_call 82; refine Calls.quiet_of_same (HA.out _)))
          go_wp2
          go_roundw
          case rel => exact ⟨j + 1, by omega, by go_num, HH.out, pw_below_drewN HW.out _, HK2.out⟩
          case measure => simp [intOf]; omega
    · have hje : j = d.fields.length := by omega
      subst hje
      have HSR := Lib.hid ((row1_of_C HV.out.h3).below HW.out)
      have HX := Lib.hid (HE4.out HOK.out)
      clear hj hlt
      have HA := Lib.hid (calls_swap (containsfunc_2 v.A3 v.c3 d.states wr HSR.out (by omega)))
      cases h2 : d.states.any (fun n => !inD n 0 3) with
      | true =>
        have hs := HE3.out h2
        rw [hs] at HQ'
        rw [h2] at HA
        clear h2 hs
        go_wp2_with fail
        refine HA.out.mono ?_
        rintro e w1 ⟨rfl, rfl⟩
        go_wp2
        exact HQ'.out _ _ ⟨rfl, HW.out⟩
      | false =>
        have hs := HX.out h2
        rw [hs] at HQ'
        rw [h2] at HA
        clear h2 hs
        go_wp2_with fail
        refine HA.out.mono ?_
        rintro e w1 ⟨rfl, rfl⟩
        go_wp2
        exact HQ'.out _ _ ⟨rfl, HW.out⟩
end Go.Proofs.Ytphhdmopfmelbaa
