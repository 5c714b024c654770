/- record: within, limits, refused. -/
import Derived.Test.YtphhdmopfmelbaaLive
import Derived.BigQuiet
import Derived.Deep.QuietTactic
namespace Go.Proofs.Ytphhdmopfmelbaa
open Go.RowKit Go.Proofs.YtphhdmopfmelbaaW.PrintWords
set_option linter.unusedVariables false
set_option linter.unusedSimpArgs false

def inD (n lo hi : Int) : Bool := decide (lo ≤ n) && decide (n < hi)
set_option maxHeartbeats 400000 in
theorem rec_within (n lo hi : Int) (w : World) : Calls Try.prog 81 #[.int .i64 n, .int .i64 lo, .int .i64 hi] w fun e w' => e = .returned (.bool (inD n lo hi)) ∧ w = w' := by
  unfold inD
  by_cases h1 : lo ≤ n
  · by_cases h2 : n < hi
    · rw [decide_eq_true h1, decide_eq_true h2]
      go_enter Try.func81, Try.ntmps81
      go_wp2
      go_ret
      exact ⟨rfl, rfl⟩
    · rw [decide_eq_true h1, decide_eq_false h2]
      go_enter Try.func81, Try.ntmps81
      go_wp2
      go_ret
      exact ⟨rfl, rfl⟩
  · rw [decide_eq_false h1]
    go_enter Try.func81, Try.ntmps81
    go_wp2
    go_ret
    exact ⟨rfl, rfl⟩

theorem take_one' {α : Type} (l : List α) (j : Nat) (h : j < l.length) : l.take j ++ [l[j]] = l.take (j + 1) := (List.take_succ_eq_append_getElem h).symm
/-- Too great? -/
def limitsD (d : WD) : Int := if d.fields.length > 64 ∨ d.states.length > 64 ∨ ∃ r ∈ d.fields, r.length > 64 then 2 else 0

set_option maxHeartbeats 1000000 in
set_option maxRecDepth 100000 in
theorem rec_limits (w : World) (v : WV) (d : WD) (hv : v.Reads w d) (hl : d.fields.length < 1000000000000000) :
    Calls Try.prog 37 #[v.val d] w fun e w' => e = .returned (.int .i64 (limitsD d)) ∧ Below w.heap.size w w' := by
  refine calls_hide fun Q HQ => ?_
  have HQ' := Lib.hid HQ
  have HV := Lib.hid hv
  have HB := Lib.hid ((Below.refl w.heap.size w).alloc (Nat.le_refl _) (.cells (v.cells d).toArray TWD))
  clear HQ hv
  by_cases h0 : d.fields.length > 64
  · have hs : limitsD d = 2 := by unfold limitsD; rw [if_pos (.inl h0)]
    rw [hs] at HQ'
    go_enter Try.func37, Try.ntmps37
    go_wp2
    exact HQ'.out _ _ ⟨rfl, HB.out⟩
  by_cases h1 : d.states.length > 64
  · have hs : limitsD d = 2 := by unfold limitsD; rw [if_pos (.inr (.inl h1))]
    rw [hs] at HQ'
    go_enter Try.func37, Try.ntmps37
    go_wp2
    exact HQ'.out _ _ ⟨rfl, HB.out⟩
  have HE := Lib.hid (show (∀ r ∈ d.fields, r.length ≤ 64) → limitsD d = 0 from fun h => by
    unfold limitsD; rw [if_neg]; rintro (h2 | h2 | ⟨r, hr, h2⟩)
    · exact h0 h2
    · exact h1 h2
    · have := h r hr; omega)
  have HE2 := Lib.hid (show ∀ j (hj : j < d.fields.length), d.fields[j].length > 64 → limitsD d = 2 from fun j hj h => by
    unfold limitsD; rw [if_pos (.inr (.inr ⟨_, List.getElem_mem hj, h⟩))])
  go_enter Try.func37, Try.ntmps37
  go_wp2
  go_loopw [18] (fun k wr => ∃ j : Nat, j ≤ d.fields.length ∧ k = .int .i64 j ∧ (∀ r ∈ d.fields.take j, r.length ≤ 64) ∧ Below w.heap.size w wr) (fun k _ => d.fields.length - (intOf k).toNat)
  case atStart => exact ⟨0, Nat.zero_le _, rfl, by simp, HB.out⟩
  case round =>
    obtain ⟨j, hj, rfl, hr, hb⟩ := hrel
    have HR := Lib.hid hr
    have HW := Lib.hid hb
    clear hr hb
    by_cases hlt : j < d.fields.length
    · obtain ⟨ad, hA, A', c', hc0, _, _⟩ := row_at HV.out.h0 hlt
      have hc : wr.cell? (ad.add j) = some (.slice A' d.fields[j].length c') := pw_cell_below HW.out hc0
      have HT := Lib.hid (take_one' d.fields j hlt)
      have HE3 := Lib.hid (HE2.out j hlt)
      generalize d.fields[j] = row at *
      clear hc0
      obtain ⟨A0, c0, A1, c1, A2, c2, A3, c3, A4, c4⟩ := v
      simp only at hA
      subst hA
      by_cases h64 : row.length > 64
      · have hs := HE3.out h64
        rw [hs] at HQ'
        go_wp2
        exact HQ'.out _ _ ⟨rfl, HW.out⟩
      · go_wp2
        go_roundw
        case rel => exact ⟨j + 1, by omega, by go_num, by
          rw [← HT.out]; intro r hr
          rcases List.mem_append.1 hr with hr | hr
          · exact HR.out r hr
          · simp at hr; subst hr; omega, HW.out⟩
        case measure => simp [intOf]; omega
    · have hje : j = d.fields.length := by omega
      subst hje
      have hs := HE.out (by have := HR.out; rwa [List.take_of_length_le (Nat.le_refl _)] at this)
      rw [hs] at HQ'
      go_wp2
      exact HQ'.out _ _ ⟨rfl, HW.out⟩

/-- The error of an act. -/
def refD (d : WD) (k at_ a b c : Int) : Int :=
  if inD k 1 12 = false then 5
  else if k ≥ 7 then (if inD at_ 0 d.states.length then 0 else 1)
  else if inD at_ 0 d.fields.length = false then 1
  else if k = 1 then (if inD a 0 (d.fields.getD at_.toNat []).length then 0 else 1)
  else if k = 2 then (if inD a 0 (d.fields.getD at_.toNat []).length && inD b (-1) d.fields.length && inD c (-1) d.fields.length then 0 else 1)
  else if k = 4 then (if inD b (-1) d.states.length && inD c 0 d.states.length then 0 else 1)
  else 0

theorem within_of (n lo hi : Int) (r : Bool) (h : inD n lo hi = r) (w : World) : Calls Try.prog 81 #[.int .i64 n, .int .i64 lo, .int .i64 hi] w fun e w' => e = .returned (.bool r) ∧ w = w' := by
  subst h; exact rec_within n lo hi w
theorem row_at' {w : World} {A : Option Addr} {n : Nat} {xs : List (List Int)} (h : KRow.C w A n xs) {j : Nat} (hj : j < xs.length) : ∃ ad A' c', A = some ad ∧ w.cell? (ad.add j) = some (.slice A' (xs.getD j []).length c') := by
  obtain ⟨ad, hA, A', c', hc, _⟩ := row_at h hj
  exact ⟨ad, A', c', hA, by rw [hc]; simp [List.getD_eq_getElem?_getD, List.getElem?_eq_getElem hj]⟩

set_option maxHeartbeats 4000000 in
set_option maxRecDepth 100000 in
theorem rec_refused (w : World) (v : WV) (d : WD) (hv : v.Reads w d) (hl : d.fields.length < 1000000000000000) (hl3 : d.states.length < 1000000000000000) (hr : ∀ r ∈ d.fields, r.length < 1000000000000000) (k at_ a b c : Int) :
    Calls Try.prog 39 #[v.val d, .agg #[.int .i64 k, .int .i64 at_, .int .i64 a, .int .i64 b, .int .i64 c]] w fun e w' => e = .returned (.int .i64 (refD d k at_ a b c)) ∧ Below w.heap.size w w' := by
  refine calls_hide fun Q HQ => ?_
  have HQ' := Lib.hid HQ
  have HV := Lib.hid hv
  have HR := Lib.hid hr
  have hba := ((Below.refl w.heap.size w).alloc (Nat.le_refl _) (.cells (v.cells d).toArray TWD)).alloc (by simp) (.cells #[.int .i64 k, .int .i64 at_, .int .i64 a, .int .i64 b, .int .i64 c] 65)
  have hb1 := (Blk.new w TWD (v.cells d)).alloc (.cells #[.int .i64 k, .int .i64 at_, .int .i64 a, .int .i64 b, .int .i64 c] 65)
  have hb2 := Blk.new (w.alloc (.cells (v.cells d).toArray TWD)) 65 [.int .i64 k, .int .i64 at_, .int .i64 a, .int .i64 b, .int .i64 c]
  rw [World.size_alloc] at hb2
  have hc0 := hb1.cell 0
  have hc3 := hb1.cell 3
  have ha0 := hb2.cell 0
  have ha1 := hb2.cell 1
  have ha2 := hb2.cell 2
  have ha3 := hb2.cell 3
  have ha4 := hb2.cell 4
  simp only [List.getElem?_cons_zero, List.getElem?_cons_succ] at hc0 hc3 ha0 ha1 ha2 ha3 ha4
  have HBA := Lib.hid hba
  have HB1 := Lib.hid hb1
  have HB2 := Lib.hid hb2
  clear HQ hv hr hba hb1 hb2
  go_enter Try.func39, Try.ntmps39
  go_wp2_with fail
  generalize (w.alloc (.cells (v.cells d).toArray TWD)).alloc (.cells #[.int .i64 k, .int .i64 at_, .int .i64 a, .int .i64 b, .int .i64 c] 65) = wA at *
  go_quiet (fail)
  have HBN := Lib.hid (HBA.out.trans (pw_below_drewN (Below.refl w.heap.size wA) nq))
  have HB3 := Lib.hid (show Blk (wA.drewN nq) w.heap.size TWD (v.cells d) from HB1.out)
  have HB4 := Lib.hid (show Blk (wA.drewN nq) (w.heap.size + 1) 65 _ from HB2.out)
  clear hc0 hc3 ha0 ha1 ha2 ha3 ha4 HBA HB1 HB2
  generalize wA.drewN nq = wB at *
  have hc0 := HB3.out.cell 0
  have hc3 := HB3.out.cell 3
  have ha0 := HB4.out.cell 0
  have ha1 := HB4.out.cell 1
  have ha2 := HB4.out.cell 2
  have ha3 := HB4.out.cell 3
  have ha4 := HB4.out.cell 4
  simp only [List.getElem?_cons_zero, List.getElem?_cons_succ] at hc0 hc3 ha0 ha1 ha2 ha3 ha4
  go_wp2_with fail
  cases h1 : inD k 1 12 with
  | false =>
    have hs : refD d k at_ a b c = 5 := by unfold refD; rw [if_pos h1]
    rw [hs] at HQ'
    refine (within_of _ _ _ _ h1 _).mono ?_; rintro e w1 ⟨rfl, rfl⟩
    go_wp2
    exact HQ'.out _ _ ⟨rfl, HBN.out⟩
  | true =>
    refine (within_of _ _ _ _ h1 _).mono ?_; rintro e w1 ⟨rfl, rfl⟩
    have hk : 1 ≤ k ∧ k < 12 := by simpa [inD] using h1
    have H1 := Lib.hid h1
    clear h1
    by_cases h7 : k ≥ 7
    · cases h2 : inD at_ 0 d.states.length
      all_goals
        have hs : refD d k at_ a b c = if inD at_ 0 d.states.length then 0 else 1 := by unfold refD; rw [if_neg (by rw [H1.out]; decide), if_pos h7]
        rw [h2] at hs
        simp only [if_true, Bool.false_eq_true, if_false] at hs
        rw [hs] at HQ'
        have H2 := Lib.hid h2
        clear hs h2
        go_wp2_with fail
        refine (within_of _ _ _ _ H2.out _).mono ?_; rintro e w1 ⟨rfl, rfl⟩
        go_wp2
        exact HQ'.out _ _ ⟨rfl, HBN.out⟩
    cases h2 : inD at_ 0 d.fields.length with
    | false =>
      have hs : refD d k at_ a b c = 1 := by unfold refD; rw [if_neg (by rw [H1.out]; decide), if_neg h7, if_pos h2]
      rw [hs] at HQ'
      have H2 := Lib.hid h2
      clear hs h2
      go_wp2_with fail
      refine (within_of _ _ _ _ H2.out _).mono ?_; rintro e w1 ⟨rfl, rfl⟩
      go_wp2
      exact HQ'.out _ _ ⟨rfl, HBN.out⟩
    | true =>
      have hat : 0 ≤ at_ ∧ at_ < d.fields.length := by simpa [inD] using h2
      obtain ⟨i, rfl⟩ : ∃ i : Nat, at_ = i := ⟨at_.toNat, by omega⟩
      obtain ⟨ad, A', c', hA, hcr0⟩ := row_at' HV.out.h0 (j := i) (by omega)
      have hcr := pw_cell_below HBN.out hcr0
      have hrl := HR.out _ (getD_mem (show i < d.fields.length by omega) [])
      have hrd : refD d k i a b c = if k = 1 then (if inD a 0 (d.fields.getD i []).length then 0 else 1)
          else if k = 2 then (if inD a 0 (d.fields.getD i []).length && inD b (-1) d.fields.length && inD c (-1) d.fields.length then 0 else 1)
          else if k = 4 then (if inD b (-1) d.states.length && inD c 0 d.states.length then 0 else 1) else 0 := by
        unfold refD; rw [if_neg (by rw [H1.out]; decide), if_neg h7, if_neg (by rw [h2]; decide), Int.toNat_natCast]
      have HRD := Lib.hid hrd
      clear hrd
      generalize d.fields.getD i [] = row at *
      have H2 := Lib.hid h2
      obtain ⟨A0, c0, A1, c1, A2, c2, A3, c3, A4, c4⟩ := v
      simp only at hA hc0 hc3
      subst hA
      have hi0 : i < d.fields.length := by omega
      clear h2 hcr0
      by_cases hk1 : k = 1
      · subst hk1
        have hs := HRD.out
        rw [if_pos rfl] at hs
        cases h3 : inD a 0 row.length
        all_goals
          rw [h3] at hs
          simp only [if_true, Bool.false_eq_true, if_false] at hs
          rw [hs] at HQ'
          clear hs
          go_wp2_with fail
          refine (within_of _ _ _ _ H2.out _).mono ?_; rintro e w1 ⟨rfl, rfl⟩
          go_wp2_with fail
          go_quiet ((go_at_call 81; refine Calls.quiet_of_same (calls_swap (rec_within _ _ _ _))))
          go_wp2
          exact HQ'.out _ _ ⟨rfl, pw_below_drewN HBN.out _⟩
      by_cases hk2 : k = 2
      · subst hk2
        have hs := HRD.out
        rw [if_neg (by decide), if_pos rfl] at hs
        cases h3 : inD a 0 row.length
        · rw [h3] at hs
          simp only [Bool.false_and, Bool.false_eq_true, if_false] at hs
          rw [hs] at HQ'
          clear hs
          go_wp2_with fail
          refine (within_of _ _ _ _ H2.out _).mono ?_; rintro e w1 ⟨rfl, rfl⟩
          go_wp2_with fail
          go_quiet ((go_at_call 81; refine Calls.quiet_of_same (calls_swap (rec_within _ _ _ _))))
          go_wp2
          exact HQ'.out _ _ ⟨rfl, pw_below_drewN HBN.out _⟩
        · cases h4 : inD b (-1) d.fields.length
          · rw [h3, h4] at hs
            simp only [Bool.and_false, Bool.false_and, Bool.true_and, Bool.false_eq_true, if_false] at hs
            rw [hs] at HQ'
            clear hs
            go_wp2_with fail
            refine (within_of _ _ _ _ H2.out _).mono ?_; rintro e w1 ⟨rfl, rfl⟩
            go_wp2_with fail
            go_quiet ((go_at_call 81; refine Calls.quiet_of_same (calls_swap (rec_within _ _ _ _))))
            go_wp2
            exact HQ'.out _ _ ⟨rfl, pw_below_drewN HBN.out _⟩
          · cases h5 : inD c (-1) d.fields.length
            all_goals
              rw [h3, h4, h5] at hs
              simp only [Bool.and_false, Bool.and_true, Bool.false_and, Bool.true_and, Bool.false_eq_true, if_false, if_true] at hs
              rw [hs] at HQ'
              clear hs
              go_wp2_with fail
              refine (within_of _ _ _ _ H2.out _).mono ?_; rintro e w1 ⟨rfl, rfl⟩
              go_wp2_with fail
              go_quiet ((go_at_call 81; refine Calls.quiet_of_same (calls_swap (rec_within _ _ _ _))))
              go_wp2
              exact HQ'.out _ _ ⟨rfl, pw_below_drewN HBN.out _⟩
      by_cases hk4 : k = 4
      · subst hk4
        have hs := HRD.out
        rw [if_neg (by decide), if_neg (by decide), if_pos rfl] at hs
        cases h4 : inD b (-1) d.states.length
        · rw [h4] at hs
          simp only [Bool.false_and, Bool.false_eq_true, if_false] at hs
          rw [hs] at HQ'
          have H4 := Lib.hid h4
          clear hs h4
          go_wp2_with fail
          refine (within_of _ _ _ _ H2.out _).mono ?_; rintro e w1 ⟨rfl, rfl⟩
          go_wp2_with fail
          refine (within_of _ _ _ _ H4.out _).mono ?_; rintro e w1 ⟨rfl, rfl⟩
          go_wp2
          exact HQ'.out _ _ ⟨rfl, HBN.out⟩
        · cases h5 : inD c 0 d.states.length
          all_goals
            rw [h4, h5] at hs
            simp only [Bool.and_false, Bool.and_true, Bool.false_and, Bool.true_and, Bool.false_eq_true, if_false, if_true] at hs
            rw [hs] at HQ'
            have H4 := Lib.hid h4
            have H5 := Lib.hid h5
            clear hs h4 h5
            go_wp2_with fail
            refine (within_of _ _ _ _ H2.out _).mono ?_; rintro e w1 ⟨rfl, rfl⟩
            go_wp2_with fail
            refine (within_of _ _ _ _ H4.out _).mono ?_; rintro e w1 ⟨rfl, rfl⟩
            go_wp2_with fail
            refine (within_of _ _ _ _ H5.out _).mono ?_; rintro e w1 ⟨rfl, rfl⟩
            go_wp2
            exact HQ'.out _ _ ⟨rfl, HBN.out⟩
      have hs := HRD.out
      rw [if_neg hk1, if_neg hk2, if_neg hk4] at hs
      rw [hs] at HQ'
      clear hs
      go_wp2_with fail
      refine (within_of _ _ _ _ H2.out _).mono ?_; rintro e w1 ⟨rfl, rfl⟩
      go_wp2
      exact HQ'.out _ _ ⟨rfl, HBN.out⟩
end Go.Proofs.Ytphhdmopfmelbaa
