/- Joined texts: RecRef RecForm RecFormB Ref12A Ref12B Ref12C. -/
import Derived.Test.YtphhdmopfmelbaaM2
import Derived.BigQuiet
import Derived.Deep.QuietTactic

/- record: within, limits, refused. -/
namespace Go.Proofs.Ytphhdmopfmelbaa
open Go.RowKit Go.Proofs.YtphhdmopfmelbaaW.PrintWords
set_option linter.unusedVariables false
set_option linter.unusedSimpArgs false

def inD (n lo hi : Int) : Bool := decide (lo ≤ n) && decide (n < hi)
set_option maxHeartbeats 400000 in
theorem rec_within (n lo hi : Int) (w : World) : Calls Try.prog 81 #[.int .i64 n, .int .i64 lo, .int .i64 hi] w fun e w' => e = .returned (.bool (inD n lo hi)) ∧ w = w' := by
  unfold inD
  by_cases h1 : lo ≤ n
  · by_cases h2 : n < hi
    · rw [decide_eq_true h1, decide_eq_true h2]
      go_enter Try.func81, Try.ntmps81
      go_wp2
      go_ret
      exact ⟨rfl, rfl⟩
    · rw [decide_eq_true h1, decide_eq_false h2]
      go_enter Try.func81, Try.ntmps81
      go_wp2
      go_ret
      exact ⟨rfl, rfl⟩
  · rw [decide_eq_false h1]
    go_enter Try.func81, Try.ntmps81
    go_wp2
    go_ret
    exact ⟨rfl, rfl⟩

theorem take_one' {α : Type} (l : List α) (j : Nat) (h : j < l.length) : l.take j ++ [l[j]] = l.take (j + 1) := (List.take_succ_eq_append_getElem h).symm
/-- Too great? -/
def limitsD (d : WD) : Int := if d.fields.length > 64 ∨ d.states.length > 64 ∨ ∃ r ∈ d.fields, r.length > 64 then 2 else 0

set_option maxHeartbeats 1000000 in
set_option maxRecDepth 100000 in
theorem rec_limits (w : World) (v : WV) (d : WD) (hv : v.Reads w d) (hl : d.fields.length < 1000000000000000) :
    Calls Try.prog 37 #[v.val d] w fun e w' => e = .returned (.int .i64 (limitsD d)) ∧ Below w.heap.size w w' := by
  refine calls_hide fun Q HQ => ?_
  have HQ' := Lib.hid HQ
  have HV := Lib.hid hv
  have HB := Lib.hid ((Below.refl w.heap.size w).alloc (Nat.le_refl _) (.cells (v.cells d).toArray TWD))
  clear HQ hv
  by_cases h0 : d.fields.length > 64
  · have hs : limitsD d = 2 := by unfold limitsD; rw [if_pos (.inl h0)]
    rw [hs] at HQ'
    go_enter Try.func37, Try.ntmps37
    go_wp2
    exact HQ'.out _ _ ⟨rfl, HB.out⟩
  by_cases h1 : d.states.length > 64
  · have hs : limitsD d = 2 := by unfold limitsD; rw [if_pos (.inr (.inl h1))]
    rw [hs] at HQ'
    go_enter Try.func37, Try.ntmps37
    go_wp2
    exact HQ'.out _ _ ⟨rfl, HB.out⟩
  have HE := Lib.hid (show (∀ r ∈ d.fields, r.length ≤ 64) → limitsD d = 0 from fun h => by
    unfold limitsD; rw [if_neg]; rintro (h2 | h2 | ⟨r, hr, h2⟩)
    · exact h0 h2
    · exact h1 h2
    · have := h r hr; omega)
  have HE2 := Lib.hid (show ∀ j (hj : j < d.fields.length), d.fields[j].length > 64 → limitsD d = 2 from fun j hj h => by
    unfold limitsD; rw [if_pos (.inr (.inr ⟨_, List.getElem_mem hj, h⟩))])
  go_enter Try.func37, Try.ntmps37
  go_wp2
  go_loopw [18] (fun k wr => ∃ j : Nat, j ≤ d.fields.length ∧ k = .int .i64 j ∧ (∀ r ∈ d.fields.take j, r.length ≤ 64) ∧ Below w.heap.size w wr) (fun k _ => d.fields.length - (intOf k).toNat)
  case atStart => exact ⟨0, Nat.zero_le _, rfl, by simp, HB.out⟩
  case round =>
    obtain ⟨j, hj, rfl, hr, hb⟩ := hrel
    have HR := Lib.hid hr
    have HW := Lib.hid hb
    clear hr hb
    by_cases hlt : j < d.fields.length
    · obtain ⟨ad, hA, A', c', hc0, _, _⟩ := row_at HV.out.h0 hlt
      have hc : wr.cell? (ad.add j) = some (.slice A' d.fields[j].length c') := pw_cell_below HW.out hc0
      have HT := Lib.hid (take_one' d.fields j hlt)
      have HE3 := Lib.hid (HE2.out j hlt)
      generalize d.fields[j] = row at *
      clear hc0
      obtain ⟨A0, c0, A1, c1, A2, c2, A3, c3, A4, c4⟩ := v
      simp only at hA
      subst hA
      by_cases h64 : row.length > 64
      · have hs := HE3.out h64
        rw [hs] at HQ'
        go_wp2
        exact HQ'.out _ _ ⟨rfl, HW.out⟩
      · go_wp2
        go_roundw
        case rel => exact ⟨j + 1, by omega, by go_num, by
          rw [← HT.out]; intro r hr
          rcases List.mem_append.1 hr with hr | hr
          · exact HR.out r hr
          · simp at hr; subst hr; omega, HW.out⟩
        case measure => simp [intOf]; omega
    · have hje : j = d.fields.length := by omega
      subst hje
      have hs := HE.out (by have := HR.out; rwa [List.take_of_length_le (Nat.le_refl _)] at this)
      rw [hs] at HQ'
      go_wp2
      exact HQ'.out _ _ ⟨rfl, HW.out⟩

/-- The error of an act. -/
def refD (d : WD) (k at_ a b c : Int) : Int :=
  if inD k 1 12 = false then 5
  else if k ≥ 7 then (if inD at_ 0 d.states.length then 0 else 1)
  else if inD at_ 0 d.fields.length = false then 1
  else if k = 1 then (if inD a 0 (d.fields.getD at_.toNat []).length then 0 else 1)
  else if k = 2 then (if inD a 0 (d.fields.getD at_.toNat []).length && inD b (-1) d.fields.length && inD c (-1) d.fields.length then 0 else 1)
  else if k = 4 then (if inD b (-1) d.states.length && inD c 0 d.states.length then 0 else 1)
  else 0

theorem within_of (n lo hi : Int) (r : Bool) (h : inD n lo hi = r) (w : World) : Calls Try.prog 81 #[.int .i64 n, .int .i64 lo, .int .i64 hi] w fun e w' => e = .returned (.bool r) ∧ w = w' := by
  subst h; exact rec_within n lo hi w
theorem row_at' {w : World} {A : Option Addr} {n : Nat} {xs : List (List Int)} (h : KRow.C w A n xs) {j : Nat} (hj : j < xs.length) : ∃ ad A' c', A = some ad ∧ w.cell? (ad.add j) = some (.slice A' (xs.getD j []).length c') := by
  obtain ⟨ad, hA, A', c', hc, _⟩ := row_at h hj
  exact ⟨ad, A', c', hA, by rw [hc]; simp [List.getD_eq_getElem?_getD, List.getElem?_eq_getElem hj]⟩

set_option maxHeartbeats 4000000 in
set_option maxRecDepth 100000 in
theorem rec_refused (w : World) (v : WV) (d : WD) (hv : v.Reads w d) (hl : d.fields.length < 1000000000000000) (hl3 : d.states.length < 1000000000000000) (hr : ∀ r ∈ d.fields, r.length < 1000000000000000) (k at_ a b c : Int) :
    Calls Try.prog 39 #[v.val d, .agg #[.int .i64 k, .int .i64 at_, .int .i64 a, .int .i64 b, .int .i64 c]] w fun e w' => e = .returned (.int .i64 (refD d k at_ a b c)) ∧ Below w.heap.size w w' := by
  refine calls_hide fun Q HQ => ?_
  have HQ' := Lib.hid HQ
  have HV := Lib.hid hv
  have HR := Lib.hid hr
  have hba := ((Below.refl w.heap.size w).alloc (Nat.le_refl _) (.cells (v.cells d).toArray TWD)).alloc (by simp) (.cells #[.int .i64 k, .int .i64 at_, .int .i64 a, .int .i64 b, .int .i64 c] 65)
  have hb1 := (Blk.new w TWD (v.cells d)).alloc (.cells #[.int .i64 k, .int .i64 at_, .int .i64 a, .int .i64 b, .int .i64 c] 65)
  have hb2 := Blk.new (w.alloc (.cells (v.cells d).toArray TWD)) 65 [.int .i64 k, .int .i64 at_, .int .i64 a, .int .i64 b, .int .i64 c]
  rw [World.size_alloc] at hb2
  have hc0 := hb1.cell 0
  have hc3 := hb1.cell 3
  have ha0 := hb2.cell 0
  have ha1 := hb2.cell 1
  have ha2 := hb2.cell 2
  have ha3 := hb2.cell 3
  have ha4 := hb2.cell 4
  simp only [List.getElem?_cons_zero, List.getElem?_cons_succ] at hc0 hc3 ha0 ha1 ha2 ha3 ha4
  have HBA := Lib.hid hba
  have HB1 := Lib.hid hb1
  have HB2 := Lib.hid hb2
  clear HQ hv hr hba hb1 hb2
  go_enter Try.func39, Try.ntmps39
  go_wp2_with fail
  generalize (w.alloc (.cells (v.cells d).toArray TWD)).alloc (.cells #[.int .i64 k, .int .i64 at_, .int .i64 a, .int .i64 b, .int .i64 c] 65) = wA at *
  go_quiet (fail)
  have HBN := Lib.hid (HBA.out.trans (pw_below_drewN (Below.refl w.heap.size wA) nq))
  have HB3 := Lib.hid (show Blk (wA.drewN nq) w.heap.size TWD (v.cells d) from HB1.out)
  have HB4 := Lib.hid (show Blk (wA.drewN nq) (w.heap.size + 1) 65 _ from HB2.out)
  clear hc0 hc3 ha0 ha1 ha2 ha3 ha4 HBA HB1 HB2
  generalize wA.drewN nq = wB at *
  have hc0 := HB3.out.cell 0
  have hc3 := HB3.out.cell 3
  have ha0 := HB4.out.cell 0
  have ha1 := HB4.out.cell 1
  have ha2 := HB4.out.cell 2
  have ha3 := HB4.out.cell 3
  have ha4 := HB4.out.cell 4
  simp only [List.getElem?_cons_zero, List.getElem?_cons_succ] at hc0 hc3 ha0 ha1 ha2 ha3 ha4
  go_wp2_with fail
  cases h1 : inD k 1 12 with
  | false =>
    have hs : refD d k at_ a b c = 5 := by unfold refD; rw [if_pos h1]
    rw [hs] at HQ'
    refine (within_of _ _ _ _ h1 _).mono ?_; rintro e w1 ⟨rfl, rfl⟩
    go_wp2
    exact HQ'.out _ _ ⟨rfl, HBN.out⟩
  | true =>
    refine (within_of _ _ _ _ h1 _).mono ?_; rintro e w1 ⟨rfl, rfl⟩
    have hk : 1 ≤ k ∧ k < 12 := by simpa [inD] using h1
    have H1 := Lib.hid h1
    clear h1
    by_cases h7 : k ≥ 7
    · cases h2 : inD at_ 0 d.states.length
      all_goals
        have hs : refD d k at_ a b c = if inD at_ 0 d.states.length then 0 else 1 := by unfold refD; rw [if_neg (by rw [H1.out]; decide), if_pos h7]
        rw [h2] at hs
        simp only [if_true, Bool.false_eq_true, if_false] at hs
        rw [hs] at HQ'
        have H2 := Lib.hid h2
        clear hs h2
        go_wp2_with fail
        refine (within_of _ _ _ _ H2.out _).mono ?_; rintro e w1 ⟨rfl, rfl⟩
        go_wp2
        exact HQ'.out _ _ ⟨rfl, HBN.out⟩
    cases h2 : inD at_ 0 d.fields.length with
    | false =>
      have hs : refD d k at_ a b c = 1 := by unfold refD; rw [if_neg (by rw [H1.out]; decide), if_neg h7, if_pos h2]
      rw [hs] at HQ'
      have H2 := Lib.hid h2
      clear hs h2
      go_wp2_with fail
      refine (within_of _ _ _ _ H2.out _).mono ?_; rintro e w1 ⟨rfl, rfl⟩
      go_wp2
      exact HQ'.out _ _ ⟨rfl, HBN.out⟩
    | true =>
      have hat : 0 ≤ at_ ∧ at_ < d.fields.length := by simpa [inD] using h2
      obtain ⟨i, rfl⟩ : ∃ i : Nat, at_ = i := ⟨at_.toNat, by omega⟩
      obtain ⟨ad, A', c', hA, hcr0⟩ := row_at' HV.out.h0 (j := i) (by omega)
      have hcr := pw_cell_below HBN.out hcr0
      have hrl := HR.out _ (getD_mem (show i < d.fields.length by omega) [])
      have hrd : refD d k i a b c = if k = 1 then (if inD a 0 (d.fields.getD i []).length then 0 else 1)
          else if k = 2 then (if inD a 0 (d.fields.getD i []).length && inD b (-1) d.fields.length && inD c (-1) d.fields.length then 0 else 1)
          else if k = 4 then (if inD b (-1) d.states.length && inD c 0 d.states.length then 0 else 1) else 0 := by
        unfold refD; rw [if_neg (by rw [H1.out]; decide), if_neg h7, if_neg (by rw [h2]; decide), Int.toNat_natCast]
      have HRD := Lib.hid hrd
      clear hrd
      generalize d.fields.getD i [] = row at *
      have H2 := Lib.hid h2
      obtain ⟨A0, c0, A1, c1, A2, c2, A3, c3, A4, c4⟩ := v
      simp only at hA hc0 hc3
      subst hA
      have hi0 : i < d.fields.length := by omega
      clear h2 hcr0
      by_cases hk1 : k = 1
      · subst hk1
        have hs := HRD.out
        rw [if_pos rfl] at hs
        cases h3 : inD a 0 row.length
        all_goals
          rw [h3] at hs
          simp only [if_true, Bool.false_eq_true, if_false] at hs
          rw [hs] at HQ'
          clear hs
          go_wp2_with fail
          refine (within_of _ _ _ _ H2.out _).mono ?_; rintro e w1 ⟨rfl, rfl⟩
          go_wp2_with fail
          go_quiet ((go_at_call 81; refine Calls.quiet_of_same (calls_swap (rec_within _ _ _ _))))
          go_wp2
          exact HQ'.out _ _ ⟨rfl, pw_below_drewN HBN.out _⟩
      by_cases hk2 : k = 2
      · subst hk2
        have hs := HRD.out
        rw [if_neg (by decide), if_pos rfl] at hs
        cases h3 : inD a 0 row.length
        · rw [h3] at hs
          simp only [Bool.false_and, Bool.false_eq_true, if_false] at hs
          rw [hs] at HQ'
          clear hs
          go_wp2_with fail
          refine (within_of _ _ _ _ H2.out _).mono ?_; rintro e w1 ⟨rfl, rfl⟩
          go_wp2_with fail
          go_quiet ((go_at_call 81; refine Calls.quiet_of_same (calls_swap (rec_within _ _ _ _))))
          go_wp2
          exact HQ'.out _ _ ⟨rfl, pw_below_drewN HBN.out _⟩
        · cases h4 : inD b (-1) d.fields.length
          · rw [h3, h4] at hs
            simp only [Bool.and_false, Bool.false_and, Bool.true_and, Bool.false_eq_true, if_false] at hs
            rw [hs] at HQ'
            clear hs
            go_wp2_with fail
            refine (within_of _ _ _ _ H2.out _).mono ?_; rintro e w1 ⟨rfl, rfl⟩
            go_wp2_with fail
            go_quiet ((go_at_call 81; refine Calls.quiet_of_same (calls_swap (rec_within _ _ _ _))))
            go_wp2
            exact HQ'.out _ _ ⟨rfl, pw_below_drewN HBN.out _⟩
          · cases h5 : inD c (-1) d.fields.length
            all_goals
              rw [h3, h4, h5] at hs
              simp only [Bool.and_false, Bool.and_true, Bool.false_and, Bool.true_and, Bool.false_eq_true, if_false, if_true] at hs
              rw [hs] at HQ'
              clear hs
              go_wp2_with fail
              refine (within_of _ _ _ _ H2.out _).mono ?_; rintro e w1 ⟨rfl, rfl⟩
              go_wp2_with fail
              go_quiet ((go_at_call 81; refine Calls.quiet_of_same (calls_swap (rec_within _ _ _ _))))
              go_wp2
              exact HQ'.out _ _ ⟨rfl, pw_below_drewN HBN.out _⟩
      by_cases hk4 : k = 4
      · subst hk4
        have hs := HRD.out
        rw [if_neg (by decide), if_neg (by decide), if_pos rfl] at hs
        cases h4 : inD b (-1) d.states.length
        · rw [h4] at hs
          simp only [Bool.false_and, Bool.false_eq_true, if_false] at hs
          rw [hs] at HQ'
          have H4 := Lib.hid h4
          clear hs h4
          go_wp2_with fail
          refine (within_of _ _ _ _ H2.out _).mono ?_; rintro e w1 ⟨rfl, rfl⟩
          go_wp2_with fail
          refine (within_of _ _ _ _ H4.out _).mono ?_; rintro e w1 ⟨rfl, rfl⟩
          go_wp2
          exact HQ'.out _ _ ⟨rfl, HBN.out⟩
        · cases h5 : inD c 0 d.states.length
          all_goals
            rw [h4, h5] at hs
            simp only [Bool.and_false, Bool.and_true, Bool.false_and, Bool.true_and, Bool.false_eq_true, if_false, if_true] at hs
            rw [hs] at HQ'
            have H4 := Lib.hid h4
            have H5 := Lib.hid h5
            clear hs h4 h5
            go_wp2_with fail
            refine (within_of _ _ _ _ H2.out _).mono ?_; rintro e w1 ⟨rfl, rfl⟩
            go_wp2_with fail
            refine (within_of _ _ _ _ H4.out _).mono ?_; rintro e w1 ⟨rfl, rfl⟩
            go_wp2_with fail
            refine (within_of _ _ _ _ H5.out _).mono ?_; rintro e w1 ⟨rfl, rfl⟩
            go_wp2
            exact HQ'.out _ _ ⟨rfl, HBN.out⟩
      have hs := HRD.out
      rw [if_neg hk1, if_neg hk2, if_neg hk4] at hs
      rw [hs] at HQ'
      clear hs
      go_wp2_with fail
      refine (within_of _ _ _ _ H2.out _).mono ?_; rintro e w1 ⟨rfl, rfl⟩
      go_wp2
      exact HQ'.out _ _ ⟨rfl, HBN.out⟩
end Go.Proofs.Ytphhdmopfmelbaa

/- record: form. Written in part by p_form.py. -/
namespace Go.Proofs.Ytphhdmopfmelbaa
open Go.RowKit Go.Proofs.YtphhdmopfmelbaaW.PrintWords
set_option linter.unusedVariables false
set_option linter.unusedSimpArgs false

def fidx (p : Int → Bool) (ns : List Int) : Int := match ns.findIdx? p with | some k => k | none => -1
theorem fidx_hit {p : Int → Bool} {ns : List Int} {k : Nat} (hk : k < ns.length) (hn : ∀ j, j < k → ∀ n, ns[j]? = some n → p n = false) (he : p ns[k] = true) : fidx p ns = k := by
  have : ns.findIdx? p = some k := by
    rw [List.findIdx?_eq_some_iff_getElem]
    exact ⟨hk, he, fun j hj => by simp [hn j hj _ (List.getElem?_eq_getElem (by omega))]⟩
  simp [fidx, this]
theorem fidx_miss {p : Int → Bool} {ns : List Int} (hn : ∀ j, j < ns.length → ∀ n, ns[j]? = some n → p n = false) : fidx p ns = -1 := by
  have : ns.findIdx? p = none := by
    rw [List.findIdx?_eq_none_iff]
    intro n hm
    obtain ⟨j, hj⟩ := List.getElem?_of_mem hm
    exact hn j (List.getElem?_eq_some_iff.1 hj).1 n hj
  simp [fidx, this]
theorem fidx_any (p : Int → Bool) (ns : List Int) : decide (fidx p ns ≥ 0) = ns.any p := by
  unfold fidx
  cases h : ns.findIdx? p with
  | none =>
    rw [List.findIdx?_eq_none_iff] at h
    have : ns.any p = false := by
      rw [Bool.eq_false_iff]
      intro h2
      obtain ⟨x, hx, hp⟩ := List.any_eq_true.1 h2
      rw [h x hx] at hp; cases hp
    rw [this]; rfl
  | some k =>
    rw [List.findIdx?_eq_some_iff_getElem] at h
    obtain ⟨hk, hp, _⟩ := h
    have : ns.any p = true := List.any_eq_true.2 ⟨_, List.getElem_mem hk, hp⟩
    rw [this]
    simp

set_option maxHeartbeats 400000 in
theorem form_1 (bx F : Nat) (A0 : Option Addr) (c0 : Nat) (n : Int) (w : World) (hb : w.cell? ⟨bx, 0, none⟩ = some (.slice A0 F c0)) : Calls Try.prog 83 #[.int .i64 n, .pointer (some ⟨bx, 0, none⟩)] w fun e w' => e = .returned (.bool ((fun n => !inD n (-1) F) n)) ∧ w = w' := by
  refine calls_hide fun Q HQ => ?_
  have HQ' := Lib.hid HQ
  clear HQ
  go_enter Try.func83, Try.ntmps83
  go_wp2_with fail
  refine (rec_within n (-1) F w).mono ?_
  rintro e w1 ⟨rfl, rfl⟩
  generalize inD n (-1) F = r at *
  go_wp2
  exact HQ'.out _ _ ⟨rfl, rfl⟩
set_option maxHeartbeats 1000000 in
theorem indexfunc_1 (bx F : Nat) (A0 : Option Addr) (c0 : Nat) (A : Option Addr) (c : Nat) (ns : List Int) (w : World) (hr : Row1 w A ns.length (ns.map (Value.int .i64))) (hl : ns.length ≤ 1000000000000) (hb : w.cell? ⟨bx, 0, none⟩ = some (.slice A0 F c0)) :
    Calls Try.prog 116 #[.slice A ns.length c, .func (.func 83) #[] #[.pointer (some ⟨bx, 0, none⟩)]] w fun e w' => e = .returned (.int .i64 (fidx (fun n => !inD n (-1) F) ns)) ∧ w = w' := by
  have HC := Lib.hid (fun n => form_1 bx F A0 c0 n w hb)
  have HR := Lib.hid hr
  have HH := Lib.hid (fun k => @fidx_hit (fun n => !inD n (-1) F) ns k)
  have HM := Lib.hid (@fidx_miss (fun n => !inD n (-1) F) ns)
  clear hr
  refine calls_hide fun Q HQ => ?_
  have HQ' := Lib.hid HQ
  clear HQ
  go_enter Try.func116, Try.ntmps116
  go_wp2
  go_loopw [8] (fun k wr => ∃ j : Nat, j ≤ ns.length ∧ k = .int .i64 j ∧ wr = w ∧ ∀ i, i < j → ∀ n, ns[i]? = some n → (fun n => !inD n (-1) F) n = false) (fun k _ => ns.length - (intOf k).toNat)
  case atStart => exact ⟨0, Nat.zero_le _, rfl, rfl, fun i hi => absurd hi (Nat.not_lt_zero i)⟩
  case round =>
    obtain ⟨j, hj, rfl, rfl, hn⟩ := hrel
    have HN := Lib.hid hn
    clear hn
    by_cases hlt : j < ns.length
    · obtain ⟨ad, rfl, hc⟩ := HR.out.at_ (j := j) (u := .int .i64 ns[j]) (by simp [List.getElem?_eq_getElem hlt])
      have HJ := Lib.hid (List.getElem?_eq_getElem hlt)
      have HH2 := Lib.hid (HH.out j hlt)
      generalize ns[j] = n at *
      go_wp2_with fail
      refine (HC.out n).mono ?_
      rintro e w1 ⟨rfl, rfl⟩
      cases hp : inD n (-1) F with
      | true =>
        simp only [hp, Bool.not_true]
        go_wp2
        go_roundw
        case rel => exact ⟨j + 1, by omega, by go_num, by first | rfl | trivial, fun i hi n' hn' => by
          rcases Nat.lt_or_ge i j with h | h
          · exact HN.out i h n' hn'
          · have : i = j := by omega
            subst this
            rw [HJ.out] at hn'
            cases hn'
            simp only [hp, Bool.not_true]⟩
        case measure => simp [intOf]; omega
      | false =>
        have hs := HH2.out HN.out (by simp only [hp, Bool.not_false])
        rw [hs] at HQ'
        simp only [hp, Bool.not_false]
        go_wp2
        exact HQ'.out _ _ ⟨rfl, rfl⟩
    · have hje : j = ns.length := by omega
      subst hje
      have hs := HM.out HN.out
      rw [hs] at HQ'
      go_wp2
      exact HQ'.out _ _ ⟨rfl, rfl⟩
theorem containsfunc_1 (bx F : Nat) (A0 : Option Addr) (c0 : Nat) (A : Option Addr) (c : Nat) (ns : List Int) (w : World) (hr : Row1 w A ns.length (ns.map (Value.int .i64))) (hl : ns.length ≤ 1000000000000) (hb : w.cell? ⟨bx, 0, none⟩ = some (.slice A0 F c0)) :
    Calls Try.prog 82 #[.slice A ns.length c, .func (.func 83) #[] #[.pointer (some ⟨bx, 0, none⟩)]] w fun e w' => e = .returned (.bool (ns.any (fun n => !inD n (-1) F))) ∧ w = w' := by
  have HC := Lib.hid (indexfunc_1 bx F A0 c0 A c ns w hr hl hb)
  rw [← fidx_any]
  clear hr
  refine calls_hide fun Q HQ => ?_
  have HQ' := Lib.hid HQ
  clear HQ
  generalize fidx (fun n => !inD n (-1) F) ns = r at *
  go_enter Try.func82, Try.ntmps82
  go_wp2_with fail
  refine HC.out.mono ?_
  rintro e w1 ⟨rfl, rfl⟩
  go_wp2
  exact HQ'.out _ _ ⟨rfl, rfl⟩

set_option maxHeartbeats 400000 in
theorem form_2  (n : Int) (w : World) : Calls Try.prog 84 #[.int .i64 n] w fun e w' => e = .returned (.bool ((fun n => !inD n 0 3) n)) ∧ w = w' := by
  refine calls_hide fun Q HQ => ?_
  have HQ' := Lib.hid HQ
  clear HQ
  go_enter Try.func84, Try.ntmps84
  go_wp2_with fail
  refine (rec_within n 0 3 w).mono ?_
  rintro e w1 ⟨rfl, rfl⟩
  generalize inD n 0 3 = r at *
  go_wp2
  exact HQ'.out _ _ ⟨rfl, rfl⟩
set_option maxHeartbeats 1000000 in
theorem indexfunc_2  (A : Option Addr) (c : Nat) (ns : List Int) (w : World) (hr : Row1 w A ns.length (ns.map (Value.int .i64))) (hl : ns.length ≤ 1000000000000) :
    Calls Try.prog 116 #[.slice A ns.length c, .func (.func 84) #[] #[]] w fun e w' => e = .returned (.int .i64 (fidx (fun n => !inD n 0 3) ns)) ∧ w = w' := by
  have HC := Lib.hid (fun n => form_2  n w)
  have HR := Lib.hid hr
  have HH := Lib.hid (fun k => @fidx_hit (fun n => !inD n 0 3) ns k)
  have HM := Lib.hid (@fidx_miss (fun n => !inD n 0 3) ns)
  clear hr
  refine calls_hide fun Q HQ => ?_
  have HQ' := Lib.hid HQ
  clear HQ
  go_enter Try.func116, Try.ntmps116
  go_wp2
  go_loopw [8] (fun k wr => ∃ j : Nat, j ≤ ns.length ∧ k = .int .i64 j ∧ wr = w ∧ ∀ i, i < j → ∀ n, ns[i]? = some n → (fun n => !inD n 0 3) n = false) (fun k _ => ns.length - (intOf k).toNat)
  case atStart => exact ⟨0, Nat.zero_le _, rfl, rfl, fun i hi => absurd hi (Nat.not_lt_zero i)⟩
  case round =>
    obtain ⟨j, hj, rfl, rfl, hn⟩ := hrel
    have HN := Lib.hid hn
    clear hn
    by_cases hlt : j < ns.length
    · obtain ⟨ad, rfl, hc⟩ := HR.out.at_ (j := j) (u := .int .i64 ns[j]) (by simp [List.getElem?_eq_getElem hlt])
      have HJ := Lib.hid (List.getElem?_eq_getElem hlt)
      have HH2 := Lib.hid (HH.out j hlt)
      generalize ns[j] = n at *
      go_wp2_with fail
      refine (HC.out n).mono ?_
      rintro e w1 ⟨rfl, rfl⟩
      cases hp : inD n 0 3 with
      | true =>
        simp only [hp, Bool.not_true]
        go_wp2
        go_roundw
        case rel => exact ⟨j + 1, by omega, by go_num, by first | rfl | trivial, fun i hi n' hn' => by
          rcases Nat.lt_or_ge i j with h | h
          · exact HN.out i h n' hn'
          · have : i = j := by omega
            subst this
            rw [HJ.out] at hn'
            cases hn'
            simp only [hp, Bool.not_true]⟩
        case measure => simp [intOf]; omega
      | false =>
        have hs := HH2.out HN.out (by simp only [hp, Bool.not_false])
        rw [hs] at HQ'
        simp only [hp, Bool.not_false]
        go_wp2
        exact HQ'.out _ _ ⟨rfl, rfl⟩
    · have hje : j = ns.length := by omega
      subst hje
      have hs := HM.out HN.out
      rw [hs] at HQ'
      go_wp2
      exact HQ'.out _ _ ⟨rfl, rfl⟩
theorem containsfunc_2  (A : Option Addr) (c : Nat) (ns : List Int) (w : World) (hr : Row1 w A ns.length (ns.map (Value.int .i64))) (hl : ns.length ≤ 1000000000000) :
    Calls Try.prog 82 #[.slice A ns.length c, .func (.func 84) #[] #[]] w fun e w' => e = .returned (.bool (ns.any (fun n => !inD n 0 3))) ∧ w = w' := by
  have HC := Lib.hid (indexfunc_2  A c ns w hr hl)
  rw [← fidx_any]
  clear hr
  refine calls_hide fun Q HQ => ?_
  have HQ' := Lib.hid HQ
  clear HQ
  generalize fidx (fun n => !inD n 0 3) ns = r at *
  go_enter Try.func82, Try.ntmps82
  go_wp2_with fail
  refine HC.out.mono ?_
  rintro e w1 ⟨rfl, rfl⟩
  go_wp2
  exact HQ'.out _ _ ⟨rfl, rfl⟩

end Go.Proofs.Ytphhdmopfmelbaa

/- record: form. -/
namespace Go.Proofs.Ytphhdmopfmelbaa
open Go.RowKit Go.Proofs.YtphhdmopfmelbaaW.PrintWords
set_option linter.unusedVariables false
set_option linter.unusedSimpArgs false

/-- In form? By parts: a row of fields, an info, the states. -/
def rowB (d : WD) (r : List Int) : Bool := r.any (fun n => !inD n (-1) d.fields.length)
def infoB (d : WD) (i : Nat) : Bool := inD (d.infos.getD i 0) (-1) d.states.length
def formB (d : WD) : Prop := d.infos.length = d.fields.length ∧ d.marks.length = d.fields.length ∧ d.frozen.length = d.states.length ∧ (∀ i, i < d.fields.length → infoB d i = true ∧ rowB d (d.fields.getD i []) = false) ∧ d.states.any (fun n => !inD n 0 3) = false
instance (d : WD) : Decidable (formB d) := by unfold formB; infer_instance
def formD (d : WD) : Int := if formB d then 0 else 3

set_option maxHeartbeats 2000000 in
set_option maxRecDepth 100000 in
theorem rec_form (w : World) (v : WV) (d : WD) (hv : v.Reads w d) (hl : d.fields.length < 1000000000000) (hl3 : d.states.length < 1000000000000) (hr : ∀ r ∈ d.fields, r.length < 1000000000000) :
    Calls Try.prog 38 #[v.val d] w fun e w' => e = .returned (.int .i64 (formD d)) ∧ Below w.heap.size w w' := by
  refine calls_hide fun Q HQ => ?_
  have HQ' := Lib.hid HQ
  have HV := Lib.hid hv
  have HR := Lib.hid hr
  have HB := Lib.hid (fun o => (Below.refl w.heap.size w).alloc (Nat.le_refl _) o)
  clear HQ hv hr
  by_cases e1 : d.infos.length = d.fields.length
  case neg =>
    have hs : formD d = 3 := by unfold formD; rw [if_neg (fun h => e1 h.1)]
    rw [hs] at HQ'
    go_enter Try.func38, Try.ntmps38
    go_wp2
    exact HQ'.out _ _ ⟨rfl, HB.out _⟩
  by_cases e2 : d.marks.length = d.fields.length
  case neg =>
    have hs : formD d = 3 := by unfold formD; rw [if_neg (fun h => e2 h.2.1)]
    rw [hs] at HQ'
    go_enter Try.func38, Try.ntmps38
    go_wp2
    exact HQ'.out _ _ ⟨rfl, HB.out _⟩
  by_cases e4 : d.frozen.length = d.states.length
  case neg =>
    have hs : formD d = 3 := by unfold formD; rw [if_neg (fun h => e4 h.2.2.1)]
    rw [hs] at HQ'
    go_enter Try.func38, Try.ntmps38
    go_wp2
    exact HQ'.out _ _ ⟨rfl, HB.out _⟩
  have HE1 := Lib.hid (show ∀ i, i < d.fields.length → infoB d i = false → formD d = 3 from fun i hi h => by unfold formD; rw [if_neg (fun k => by have := (k.2.2.2.1 i hi).1; rw [h] at this; cases this)])
  have HE2 := Lib.hid (show ∀ i, i < d.fields.length → rowB d (d.fields.getD i []) = true → formD d = 3 from fun i hi h => by unfold formD; rw [if_neg (fun k => by have := (k.2.2.2.1 i hi).2; rw [h] at this; cases this)])
  have HE3 := Lib.hid (show d.states.any (fun n => !inD n 0 3) = true → formD d = 3 from fun h => by unfold formD; rw [if_neg (fun k => by have := k.2.2.2.2; rw [h] at this; cases this)])
  have HE4 := Lib.hid (show (∀ i, i < d.fields.length → infoB d i = true ∧ rowB d (d.fields.getD i []) = false) → d.states.any (fun n => !inD n 0 3) = false → formD d = 0 from fun h1 h2 => by unfold formD; rw [if_pos ⟨e1, e2, e4, h1, h2⟩])
  have E1 := Lib.hid e1
  go_enter Try.func38, Try.ntmps38
  go_wp2
  go_loopw [33] (fun k wr => ∃ j : Nat, j ≤ d.fields.length ∧ k = .int .i64 j ∧ (∀ i, i < j → infoB d i = true ∧ rowB d (d.fields.getD i []) = false) ∧ Below w.heap.size w wr ∧ Blk wr w.heap.size TWD (v.cells d)) (fun k _ => d.fields.length - (intOf k).toNat)
  case atStart => exact ⟨0, Nat.zero_le _, rfl, fun i hi => absurd hi (Nat.not_lt_zero i), HB.out _, by simp only [WV.cells, e1, e2, e4]; exact Blk.new w TWD _⟩
  case round =>
    obtain ⟨j, hj, rfl, hok, hb, hk⟩ := hrel
    have HOK := Lib.hid hok
    have HW := Lib.hid hb
    have HK2 := Lib.hid hk
    clear hok hb hk
    have hc3 : wr.cell? ⟨w.heap.size, 3, none⟩ = some (.slice v.A3 d.states.length v.c3) := HK2.out.cell 3
    by_cases hlt : j < d.fields.length
    · obtain ⟨ad, A', c', hA, hcr0⟩ := row_at' HV.out.h0 hlt
      have hcr := pw_cell_below HW.out hcr0
      obtain ⟨ad0, hA0, A0', c0', hcr1, _, hrow⟩ := row_at HV.out.h0 hlt
      obtain ⟨ad1, hA1, hci⟩ := int_at HV.out.h1 (j := j) (by rw [E1.out]; exact hlt)
      have hrl := HR.out _ (getD_mem hlt [])
      have hgi : d.infos.getD j 0 = d.infos[j]'(by rw [E1.out]; exact hlt) := by simp [List.getD_eq_getElem?_getD, List.getElem?_eq_getElem (show j < d.infos.length by rw [E1.out]; exact hlt)]
      rw [← hgi] at hci
      have hcn := pw_cell_below HW.out hci
      have hgr : d.fields.getD j [] = d.fields[j] := by simp [List.getD_eq_getElem?_getD, List.getElem?_eq_getElem hlt]
      have hAA : A0' = A' := by
        rw [hA] at hA0; cases hA0
        rw [hcr0] at hcr1; exact (Value.slice.inj (Option.some.inj hcr1)).1.symm
      subst hAA
      rw [← hgr] at hrow
      have HROW := Lib.hid ((row1_of_C hrow).below HW.out)
      have hc0 : wr.cell? ⟨w.heap.size, 0, none⟩ = some (.slice v.A0 d.fields.length v.c0) := HK2.out.cell 0
      have hc1 : wr.cell? ⟨w.heap.size, 1, none⟩ = some (.slice v.A1 d.infos.length v.c1) := HK2.out.cell 1
      have HC0 := Lib.hid hc0
      have HI1 := Lib.hid (HE1.out j hlt)
      have HI2 := Lib.hid (HE2.out j hlt)
      have HNX := Lib.hid (show infoB d j = true → rowB d (d.fields.getD j []) = false → ∀ i, i < j + 1 → infoB d i = true ∧ rowB d (d.fields.getD i []) = false from fun h1 h2 i hi => by
        rcases Nat.lt_or_ge i j with h | h
        · exact HOK.out i h
        · have : i = j := by omega
          subst this; exact ⟨h1, h2⟩)
      unfold infoB at HI1 HNX
      unfold rowB at HI2 HNX
      clear hcr0 hcr1 hci hgi hgr hrow hA0
      generalize d.fields.getD j [] = row at *
      generalize d.infos.getD j 0 = n at *
      obtain ⟨A0, c0, A1, c1, A2, c2, A3, c3, A4, c4⟩ := v
      simp only at hA hA1 hc0 hc1 hc3
      subst hA hA1
      have he1 := E1.out
      cases h1 : inD n (-1) d.states.length with
      | false =>
        have hs := HI1.out h1
        rw [hs] at HQ'
        go_wp2
        go_quiet ((go_at_call 81; refine Calls.quiet_of_same (calls_swap (rec_within _ _ _ _))))
        go_wp2
        exact HQ'.out _ _ ⟨rfl, pw_below_drewN HW.out _⟩
      | true =>
        cases h2 : row.any (fun n => !inD n (-1) d.fields.length) with
        | true =>
          have hs := HI2.out h2
          rw [hs] at HQ'
          have HA := Lib.hid (show ∀ m, Calls Try.prog 82 #[.slice A0' row.length c', .func (.func 83) #[] #[.pointer (some ⟨w.heap.size, 0, none⟩)]] (wr.drewN m) fun e w' => e = .returned (.bool true) ∧ w' = wr.drewN m from fun m => by
            rw [← h2]
            exact calls_swap (containsfunc_1 w.heap.size d.fields.length (some ad) c0 A0' c' row (wr.drewN m) HROW.out (by omega) HC0.out))
          clear h2 hs
          go_wp2
          go_quiet (first | (go_at_call 81; refine Calls.quiet_of_same (calls_swap (rec_within _ _ _ _))) | (go_at_call 82; refine Calls.quiet_of_same (HA.out _)))
          go_wp2
          exact HQ'.out _ _ ⟨rfl, pw_below_drewN HW.out _⟩
        | false =>
          have HA := Lib.hid (show ∀ m, Calls Try.prog 82 #[.slice A0' row.length c', .func (.func 83) #[] #[.pointer (some ⟨w.heap.size, 0, none⟩)]] (wr.drewN m) fun e w' => e = .returned (.bool false) ∧ w' = wr.drewN m from fun m => by
            rw [← h2]
            exact calls_swap (containsfunc_1 w.heap.size d.fields.length (some ad) c0 A0' c' row (wr.drewN m) HROW.out (by omega) HC0.out))
          have HH := Lib.hid (HNX.out h1 h2)
          clear h2
          go_wp2
          go_quiet (first | (go_at_call 81; refine Calls.quiet_of_same (calls_swap (rec_within _ _ _ _))) | (go_at_call 82; refine Calls.quiet_of_same (HA.out _)))
          go_wp2
          go_roundw
          case rel => exact ⟨j + 1, by omega, by go_num, HH.out, pw_below_drewN HW.out _, HK2.out⟩
          case measure => simp [intOf]; omega
    · have hje : j = d.fields.length := by omega
      subst hje
      have HSR := Lib.hid ((row1_of_C HV.out.h3).below HW.out)
      have HX := Lib.hid (HE4.out HOK.out)
      clear hj hlt
      have HA := Lib.hid (calls_swap (containsfunc_2 v.A3 v.c3 d.states wr HSR.out (by omega)))
      cases h2 : d.states.any (fun n => !inD n 0 3) with
      | true =>
        have hs := HE3.out h2
        rw [hs] at HQ'
        rw [h2] at HA
        clear h2 hs
        go_wp2_with fail
        refine HA.out.mono ?_
        rintro e w1 ⟨rfl, rfl⟩
        go_wp2
        exact HQ'.out _ _ ⟨rfl, HW.out⟩
      | false =>
        have hs := HX.out h2
        rw [hs] at HQ'
        rw [h2] at HA
        clear h2 hs
        go_wp2_with fail
        refine HA.out.mono ?_
        rintro e w1 ⟨rfl, rfl⟩
        go_wp2
        exact HQ'.out _ _ ⟨rfl, HW.out⟩
end Go.Proofs.Ytphhdmopfmelbaa

/- larchref12: in, bit, SameInts, SameBools. Written by p_same.py. -/
namespace Go.Proofs.Ytphhdmopfmelbaa
open Go.RowKit Go.Proofs.YtphhdmopfmelbaaW.PrintWords
set_option linter.unusedVariables false
set_option linter.unusedSimpArgs false

set_option maxHeartbeats 400000 in
theorem ref_in (n lo hi : Int) (w : World) : Calls Try.prog 100 #[.int .i64 n, .int .i64 lo, .int .i64 hi] w fun e w' => e = .returned (.bool (inD n lo (hi + 1))) ∧ w = w' := by
  unfold inD
  by_cases h1 : lo ≤ n
  · by_cases h2 : n ≤ hi
    · rw [decide_eq_true h1, decide_eq_true (show n < hi + 1 by omega)]
      go_enter Try.func100, Try.ntmps100
      go_wp2
      go_ret
      exact ⟨rfl, rfl⟩
    · rw [decide_eq_true h1, decide_eq_false (show ¬ n < hi + 1 by omega)]
      go_enter Try.func100, Try.ntmps100
      go_wp2
      go_ret
      exact ⟨rfl, rfl⟩
  · rw [decide_eq_false h1]
    go_enter Try.func100, Try.ntmps100
    go_wp2
    go_ret
    exact ⟨rfl, rfl⟩
set_option maxHeartbeats 400000 in
theorem ref_bit (f : Bool) (w : World) : Calls Try.prog 101 #[.bool f] w fun e w' => e = .returned (.int .i64 (bitI f)) ∧ w = w' := by
  cases f
  all_goals
    go_enter Try.func101, Try.ntmps101
    go_wp2
    go_ret
    exact ⟨rfl, rfl⟩
theorem eq_of_take {α : Type} {xs ys : List α} (hl : xs.length = ys.length) (h : ∀ i, i < xs.length → xs[i]? = ys[i]?) : xs = ys := by
  apply List.ext_getElem? 
  intro i
  rcases Nat.lt_or_ge i xs.length with hi | hi
  · exact h i hi
  · rw [List.getElem?_eq_none hi, List.getElem?_eq_none (by omega)]

set_option maxHeartbeats 1000000 in
theorem ref_SameInts (A : Option Addr) (c : Nat) (xs : List Int) (A' : Option Addr) (c' : Nat) (ys : List Int) (w : World) (hr : Row1 w A xs.length (xs.map (Value.int .i64))) (hr' : Row1 w A' ys.length (ys.map (Value.int .i64))) (hl : xs.length ≤ 1000000000000000) :
    Calls Try.prog 21 #[.slice A xs.length c, .slice A' ys.length c'] w fun e w' => e = .returned (.bool (decide (xs = ys))) ∧ ∃ m, w' = w.drewN m := by
  refine calls_hide fun Q HQ => ?_
  have HQ' := Lib.hid HQ
  have HR := Lib.hid hr
  have HR' := Lib.hid hr'
  clear HQ hr hr'
  by_cases hlen : xs.length = ys.length
  case neg =>
    have hs : decide (xs = ys) = false := decide_eq_false (fun e => hlen (by rw [e]))
    rw [hs] at HQ'
    go_enter Try.func21, Try.ntmps21
    go_wp2
    exact HQ'.out _ _ ⟨rfl, 0, rfl⟩
  have HL := Lib.hid hlen
  have hA' : (.slice A' ys.length c' : Value) = .slice A' xs.length c' := by rw [hlen]
  rw [hA']
  clear hlen hA'
  have HNE := Lib.hid (show ∀ j (h1 : j < xs.length), xs[j] ≠ ys[j]'(by have := HL.out; omega) → decide (xs = ys) = false from fun j h1 h2 => decide_eq_false (fun e => h2 (by subst e; rfl)))
  have HEQ := Lib.hid (show (∀ i, i < xs.length → xs[i]? = ys[i]?) → decide (xs = ys) = true from fun h => decide_eq_true (eq_of_take HL.out h))
  go_enter Try.func21, Try.ntmps21
  go_wp2
  go_loopw [5] (fun k wr => ∃ j : Nat, j ≤ xs.length ∧ k = .int .i64 j ∧ (∀ i, i < j → xs[i]? = ys[i]?) ∧ ∃ m, wr = w.drewN m) (fun k _ => xs.length - (intOf k).toNat)
  case atStart => exact ⟨0, Nat.zero_le _, rfl, fun i hi => absurd hi (Nat.not_lt_zero i), 0, rfl⟩
  case round =>
    obtain ⟨j, hj, rfl, hn, m, rfl⟩ := hrel
    have HN := Lib.hid hn
    clear hn
    by_cases hlt : j < xs.length
    · have hlt2 : j < ys.length := by have := HL.out; omega
      obtain ⟨ad, rfl, hc0⟩ := HR.out.at_ (j := j) (u := Value.int .i64 xs[j]) (by simp [List.getElem?_eq_getElem hlt])
      obtain ⟨ad', rfl, hc0'⟩ := HR'.out.at_ (j := j) (u := Value.int .i64 ys[j]) (by simp [List.getElem?_eq_getElem hlt2])
      have HX := Lib.hid (List.getElem?_eq_getElem hlt)
      have HY := Lib.hid (List.getElem?_eq_getElem hlt2)
      have HNE2 := Lib.hid (HNE.out j hlt)
      generalize xs[j] = x at *
      generalize ys[j] = y at *
      by_cases hxy : x = y
      · subst hxy
        go_wp2
        go_quiet (fail)
        go_wp2
        go_roundw
        case rel => exact ⟨j + 1, by omega, by go_num, fun i hi => by
          rcases Nat.lt_or_ge i j with h | h
          · exact HN.out i h
          · have : i = j := by omega
            subst this
            rw [HX.out, HY.out], m + nq, by first | rfl | exact World.drewN_drewN _ _ _⟩
        case measure => simp [intOf]; omega
      · have hs := HNE2.out hxy
        rw [hs] at HQ'
        skip
        all_goals
          go_wp2
          go_quiet (fail)
          go_wp2
          exact HQ'.out _ _ ⟨rfl, m + nq, by first | rfl | exact World.drewN_drewN _ _ _⟩
    · have hje : j = xs.length := by omega
      subst hje
      have hs := HEQ.out HN.out
      rw [hs] at HQ'
      go_wp2
      exact HQ'.out _ _ ⟨rfl, m, rfl⟩

set_option maxHeartbeats 1000000 in
theorem ref_SameBools (A : Option Addr) (c : Nat) (xs : List Bool) (A' : Option Addr) (c' : Nat) (ys : List Bool) (w : World) (hr : Row1 w A xs.length (xs.map (Value.bool))) (hr' : Row1 w A' ys.length (ys.map (Value.bool))) (hl : xs.length ≤ 1000000000000000) :
    Calls Try.prog 47 #[.slice A xs.length c, .slice A' ys.length c'] w fun e w' => e = .returned (.bool (decide (xs = ys))) ∧ ∃ m, w' = w.drewN m := by
  refine calls_hide fun Q HQ => ?_
  have HQ' := Lib.hid HQ
  have HR := Lib.hid hr
  have HR' := Lib.hid hr'
  clear HQ hr hr'
  by_cases hlen : xs.length = ys.length
  case neg =>
    have hs : decide (xs = ys) = false := decide_eq_false (fun e => hlen (by rw [e]))
    rw [hs] at HQ'
    go_enter Try.func47, Try.ntmps47
    go_wp2
    exact HQ'.out _ _ ⟨rfl, 0, rfl⟩
  have HL := Lib.hid hlen
  have hA' : (.slice A' ys.length c' : Value) = .slice A' xs.length c' := by rw [hlen]
  rw [hA']
  clear hlen hA'
  have HNE := Lib.hid (show ∀ j (h1 : j < xs.length), xs[j] ≠ ys[j]'(by have := HL.out; omega) → decide (xs = ys) = false from fun j h1 h2 => decide_eq_false (fun e => h2 (by subst e; rfl)))
  have HEQ := Lib.hid (show (∀ i, i < xs.length → xs[i]? = ys[i]?) → decide (xs = ys) = true from fun h => decide_eq_true (eq_of_take HL.out h))
  go_enter Try.func47, Try.ntmps47
  go_wp2
  go_loopw [5] (fun k wr => ∃ j : Nat, j ≤ xs.length ∧ k = .int .i64 j ∧ (∀ i, i < j → xs[i]? = ys[i]?) ∧ ∃ m, wr = w.drewN m) (fun k _ => xs.length - (intOf k).toNat)
  case atStart => exact ⟨0, Nat.zero_le _, rfl, fun i hi => absurd hi (Nat.not_lt_zero i), 0, rfl⟩
  case round =>
    obtain ⟨j, hj, rfl, hn, m, rfl⟩ := hrel
    have HN := Lib.hid hn
    clear hn
    by_cases hlt : j < xs.length
    · have hlt2 : j < ys.length := by have := HL.out; omega
      obtain ⟨ad, rfl, hc0⟩ := HR.out.at_ (j := j) (u := Value.bool xs[j]) (by simp [List.getElem?_eq_getElem hlt])
      obtain ⟨ad', rfl, hc0'⟩ := HR'.out.at_ (j := j) (u := Value.bool ys[j]) (by simp [List.getElem?_eq_getElem hlt2])
      have HX := Lib.hid (List.getElem?_eq_getElem hlt)
      have HY := Lib.hid (List.getElem?_eq_getElem hlt2)
      have HNE2 := Lib.hid (HNE.out j hlt)
      generalize xs[j] = x at *
      generalize ys[j] = y at *
      by_cases hxy : x = y
      · subst hxy
        go_wp2
        go_quiet (fail)
        go_wp2
        go_roundw
        case rel => exact ⟨j + 1, by omega, by go_num, fun i hi => by
          rcases Nat.lt_or_ge i j with h | h
          · exact HN.out i h
          · have : i = j := by omega
            subst this
            rw [HX.out, HY.out], m + nq, by first | rfl | exact World.drewN_drewN _ _ _⟩
        case measure => simp [intOf]; omega
      · have hs := HNE2.out hxy
        rw [hs] at HQ'
        (cases x <;> cases y) <;> (first | exact absurd rfl hxy | skip)
        all_goals
          go_wp2
          go_quiet (fail)
          go_wp2
          exact HQ'.out _ _ ⟨rfl, m + nq, by first | rfl | exact World.drewN_drewN _ _ _⟩
    · have hje : j = xs.length := by omega
      subst hje
      have hs := HEQ.out HN.out
      rw [hs] at HQ'
      go_wp2
      exact HQ'.out _ _ ⟨rfl, m, rfl⟩

end Go.Proofs.Ytphhdmopfmelbaa

/- larchref12: Same, of worlds that are alike. -/
namespace Go.Proofs.Ytphhdmopfmelbaa
open Go.RowKit Go.Proofs.YtphhdmopfmelbaaW.PrintWords
set_option linter.unusedVariables false
set_option linter.unusedSimpArgs false

abbrev TRW : Nat := 43
theorem same_ints (A : Option Addr) (c : Nat) (xs : List Int) (A' : Option Addr) (c' : Nat) (w : World) (hr : Row1 w A xs.length (xs.map (Value.int .i64))) (hr' : Row1 w A' xs.length (xs.map (Value.int .i64))) (hl : xs.length ≤ 1000000000000000) :
    Calls Try.prog 21 #[.slice A xs.length c, .slice A' xs.length c'] w fun e w' => e = .returned (.bool true) ∧ ∃ m, w' = w.drewN m := by
  have := ref_SameInts A c xs A' c' xs w hr hr' hl
  rwa [decide_eq_true rfl] at this
theorem same_bools (A : Option Addr) (c : Nat) (xs : List Bool) (A' : Option Addr) (c' : Nat) (w : World) (hr : Row1 w A xs.length (xs.map Value.bool)) (hr' : Row1 w A' xs.length (xs.map Value.bool)) (hl : xs.length ≤ 1000000000000000) :
    Calls Try.prog 47 #[.slice A xs.length c, .slice A' xs.length c'] w fun e w' => e = .returned (.bool true) ∧ ∃ m, w' = w.drewN m := by
  have := ref_SameBools A c xs A' c' xs w hr hr' hl
  rwa [decide_eq_true rfl] at this

set_option maxHeartbeats 2000000 in
set_option maxRecDepth 100000 in
theorem ref_Same (w : World) (v v' : WV) (d : WD) (hv : v.Reads w d) (hv' : v'.Reads w d) (l0 : d.fields.length ≤ 1000000000000000) (l1 : d.infos.length ≤ 1000000000000000) (l2 : d.marks.length ≤ 1000000000000000) (l3 : d.states.length ≤ 1000000000000000) (l4 : d.frozen.length ≤ 1000000000000000) (hr : ∀ r ∈ d.fields, r.length ≤ 1000000000000000) :
    Calls Try.prog 22 #[v.val d, v'.val d] w fun e w' => e = .returned (.bool true) ∧ Below w.heap.size w w' := by
  refine calls_hide fun Q HQ => ?_
  have HQ' := Lib.hid HQ
  have HV := Lib.hid hv
  have HV' := Lib.hid hv'
  have HRr := Lib.hid hr
  have hba := ((Below.refl w.heap.size w).alloc (Nat.le_refl _) (.cells (v.cells d).toArray TRW)).alloc (by simp) (.cells (v'.cells d).toArray TRW)
  have hb1 := (Blk.new w TRW (v.cells d)).alloc (.cells (v'.cells d).toArray TRW)
  have hb2 := Blk.new (w.alloc (.cells (v.cells d).toArray TRW)) TRW (v'.cells d)
  rw [World.size_alloc] at hb2
  have HBA := Lib.hid hba
  have HB1 := Lib.hid hb1
  have HB2 := Lib.hid (show Blk ((w.alloc (.cells (v.cells d).toArray TRW)).alloc (.cells (v'.cells d).toArray TRW)) (w.heap.size + 1) TRW (v'.cells d) from hb2)
  have hc0 := hb1.cell 0
  have hc1 := hb1.cell 1
  have hc2 := hb1.cell 2
  have hc3 := hb1.cell 3
  have hc4 := hb1.cell 4
  have hd0 := hb2.cell 0
  have hd1 := hb2.cell 1
  have hd2 := hb2.cell 2
  have hd3 := hb2.cell 3
  have hd4 := hb2.cell 4
  simp only [List.getElem?_cons_zero, List.getElem?_cons_succ] at hc0 hc1 hc2 hc3 hc4 hd0 hd1 hd2 hd3 hd4
  clear HQ hv hv' hr hba hb1 hb2
  go_enter Try.func22, Try.ntmps22
  go_wp2_with fail
  generalize (w.alloc (.cells (v.cells d).toArray TRW)).alloc (.cells (v'.cells d).toArray TRW) = wA at *
  have hS1 := same_ints v.A1 v.c1 d.infos v'.A1 v'.c1 wA ((row1_of_C HV.out.h1).below HBA.out) ((row1_of_C HV'.out.h1).below HBA.out) (by omega)
  refine hS1.mono ?_
  rintro e w1 ⟨rfl, m1, rfl⟩
  have HS2 := Lib.hid (fun m => same_bools v.A2 v.c2 d.marks v'.A2 v'.c2 (wA.drewN m) ((row1_of_C HV.out.h2).below (pw_below_drewN HBA.out _)) ((row1_of_C HV'.out.h2).below (pw_below_drewN HBA.out _)) (by omega))
  have HS3 := Lib.hid (fun m => same_ints v.A3 v.c3 d.states v'.A3 v'.c3 (wA.drewN m) ((row1_of_C HV.out.h3).below (pw_below_drewN HBA.out _)) ((row1_of_C HV'.out.h3).below (pw_below_drewN HBA.out _)) (by omega))
  have HS4 := Lib.hid (fun m => same_bools v.A4 v.c4 d.frozen v'.A4 v'.c4 (wA.drewN m) ((row1_of_C HV.out.h4).below (pw_below_drewN HBA.out _)) ((row1_of_C HV'.out.h4).below (pw_below_drewN HBA.out _)) (by omega))
  clear hS1
  go_wp2_with fail
  refine (HS2.out m1).mono ?_
  rintro e w1 ⟨rfl, m2, rfl⟩
  rw [World.drewN_drewN]
  generalize m1 + m2 = m3
  clear HS2
  go_wp2_with fail
  refine (HS3.out m3).mono ?_
  rintro e w1 ⟨rfl, m4, rfl⟩
  rw [World.drewN_drewN]
  generalize m3 + m4 = m5
  clear HS3
  go_wp2_with fail
  refine (HS4.out m5).mono ?_
  rintro e w1 ⟨rfl, m6, rfl⟩
  rw [World.drewN_drewN]
  generalize m5 + m6 = m7
  clear HS4 hc1 hc2 hc3 hc4 hd1 hd2 hd3 hd4
  go_wp2
  go_loopw [5] (fun k wr => ∃ j : Nat, j ≤ d.fields.length ∧ k = .int .i64 j ∧ ∃ m, wr = wA.drewN m) (fun k _ => d.fields.length - (intOf k).toNat)
  case atStart => exact ⟨0, Nat.zero_le _, rfl, m7, rfl⟩
  case round =>
    obtain ⟨j, hj, rfl, m, rfl⟩ := hrel
    by_cases hlt : j < d.fields.length
    · obtain ⟨ad, hA, A1, c1, he0, _, hrow⟩ := row_at HV.out.h0 hlt
      obtain ⟨ad', hA', A1', c1', he0', _, hrow'⟩ := row_at HV'.out.h0 hlt
      have hbz := pw_below_drewN HBA.out m
      have hz0 : (wA.drewN m).cell? ⟨w.heap.size, 0, none⟩ = some (.slice v.A0 d.fields.length v.c0) := hc0
      have hz1 : (wA.drewN m).cell? ⟨w.heap.size + 1, 0, none⟩ = some (.slice v'.A0 d.fields.length v'.c0) := hd0
      generalize hwz : wA.drewN m = wz at *
      have HWZ := Lib.hid hwz
      have he := pw_cell_below hbz he0
      have he' := pw_cell_below hbz he0'
      have hl := HRr.out _ (List.getElem_mem hlt)
      have HS := Lib.hid (fun n => same_ints A1 c1 d.fields[j] A1' c1' (wz.drewN n) ((row1_of_C hrow).below (pw_below_drewN hbz _)) ((row1_of_C hrow').below (pw_below_drewN hbz _)) (by omega))
      generalize d.fields[j] = row at *
      obtain ⟨A0, c0, _, _, _, _, _, _, _, _⟩ := v
      obtain ⟨A0', c0', _, _, _, _, _, _, _, _⟩ := v'
      simp only at hA hA' hz0 hz1
      subst hA hA'
      clear he0 he0' hrow hrow' hwz hc0 hd0 hbz
      go_wp2
      go_quiet ((go_at_call 21; exact Calls.quiet_of (HS.out _)))
      go_wp2
      go_roundw
      case rel => exact ⟨j + 1, by omega, by go_num, m + nq, by rw [← HWZ.out, World.drewN_drewN]⟩
      case measure => simp [intOf]; omega
    · go_wp2
      exact HQ'.out _ _ ⟨rfl, pw_below_drewN HBA.out _⟩
end Go.Proofs.Ytphhdmopfmelbaa

/- larchref12: Check. -/
namespace Go.Proofs.Ytphhdmopfmelbaa
open Go.RowKit Go.Proofs.YtphhdmopfmelbaaW.PrintWords
set_option linter.unusedVariables false
set_option linter.unusedSimpArgs false

/-- Check's error. -/
def checkD (d : WD) : Int := if limitsD d ≠ 0 then 2 else formD d
def bigD (d : WD) (j : Nat) : Bool := decide (d.fields.length > 64) || decide (d.states.length > 64) || (d.fields.take j).any (fun r => decide (r.length > 64))
theorem bigD_all (d : WD) : (bigD d d.fields.length = true ↔ limitsD d ≠ 0) := by
  unfold bigD limitsD
  rw [List.take_of_length_le (Nat.le_refl _)]
  by_cases h0 : d.fields.length > 64
  · simp [h0]
  by_cases h1 : d.states.length > 64
  · simp [h0, h1]
  by_cases h2 : ∃ r ∈ d.fields, r.length > 64
  · have h3 : d.fields.any (fun r => decide (r.length > 64)) = true := by
      obtain ⟨r, hr, h⟩ := h2
      exact List.any_eq_true.2 ⟨r, hr, by simpa using h⟩
    rw [h3, if_pos (.inr (.inr h2))]
    simp
  · have h3 : d.fields.any (fun r => decide (r.length > 64)) = false := by
      rw [List.any_eq_false]
      intro r hr h
      exact h2 ⟨r, hr, by simpa using h⟩
    rw [h3, if_neg (fun h => by rcases h with h | h | h; exact h0 h; exact h1 h; exact h2 h)]
    simp [h0, h1]
theorem bigD_step (d : WD) (j : Nat) (hj : j < d.fields.length) : bigD d (j + 1) = (bigD d j || decide (d.fields[j].length > 64)) := by
  unfold bigD
  rw [← take_one' d.fields j hj, List.any_append]
  simp [Bool.or_assoc]

theorem ref_in' (n lo : Int) (hi : Nat) (w : World) : Calls Try.prog 100 #[.int .i64 n, .int .i64 lo, .int .i64 ((hi : Int) - 1)] w fun e w' => e = .returned (.bool (inD n lo hi)) ∧ w = w' := by
  have := ref_in n lo ((hi : Int) - 1) w
  rwa [show (hi : Int) - 1 + 1 = hi by omega] at this
theorem ref_in_of (n lo : Int) (hi : Nat) (r : Bool) (h : inD n lo hi = r) (w : World) : Calls Try.prog 100 #[.int .i64 n, .int .i64 lo, .int .i64 ((hi : Int) - 1)] w fun e w' => e = .returned (.bool r) ∧ w' = w := by
  subst h
  exact calls_swap (ref_in' n lo hi w)
theorem ref_in_of2 (n lo hi : Int) (r : Bool) (h : inD n lo (hi + 1) = r) (w : World) : Calls Try.prog 100 #[.int .i64 n, .int .i64 lo, .int .i64 hi] w fun e w' => e = .returned (.bool r) ∧ w' = w := by
  subst h
  exact calls_swap (ref_in n lo hi w)
theorem bigD_mono (d : WD) (h : bigD d 0 = true) (h2 : bigD d d.fields.length = false) : False := by
  unfold bigD at h h2
  rw [List.take_zero, List.any_nil, Bool.or_false] at h
  rw [h, Bool.true_or] at h2
  cases h2
set_option maxHeartbeats 2000000 in
set_option maxRecDepth 100000 in
theorem ref_Check (w : World) (v : WV) (d : WD) (hv : v.Reads w d) (hl : d.fields.length < 1000000000000) (hl3 : d.states.length < 1000000000000) (hr : ∀ r ∈ d.fields, r.length < 1000000000000) :
    Calls Try.prog 44 #[v.val d] w fun e w' => e = .returned (.int .i64 (checkD d)) ∧ Below w.heap.size w w' := by
  refine calls_hide fun Q HQ => ?_
  have HQ' := Lib.hid HQ
  have HV := Lib.hid hv
  have HR := Lib.hid hr
  have HBA := Lib.hid ((Below.refl w.heap.size w).alloc (Nat.le_refl _) (.cells (v.cells d).toArray TRW))
  have HB1 := Lib.hid (Blk.new w TRW (v.cells d))
  clear HQ hv hr
  have hb0 : bigD d 0 = (decide (d.fields.length > 64) || decide (d.states.length > 64)) := by simp [bigD]
  have hcases : (d.fields.length > 64 ∧ bigD d 0 = true) ∨ (¬ d.fields.length > 64 ∧ d.states.length > 64 ∧ bigD d 0 = true) ∨ (¬ d.fields.length > 64 ∧ ¬ d.states.length > 64 ∧ bigD d 0 = false) := by
    by_cases h0 : d.fields.length > 64
    · exact .inl ⟨h0, by rw [hb0]; simp [h0]⟩
    · by_cases h1 : d.states.length > 64
      · exact .inr (.inl ⟨h0, h1, by rw [hb0]; simp [h1]⟩)
      · exact .inr (.inr ⟨h0, h1, by rw [hb0]; simp [h0, h1]⟩)
  clear hb0
  rcases hcases with ⟨h0, hb⟩ | ⟨h0, h1, hb⟩ | ⟨h0, h1, hb⟩
  all_goals
    have HB0 := Lib.hid hb
    clear hb
    go_enter Try.func44, Try.ntmps44
    go_wp2
    go_loopw [4, 3] (fun k b wr => ∃ j : Nat, j ≤ d.fields.length ∧ k = .int .i64 j ∧ b = .bool (bigD d j) ∧ Below w.heap.size w wr ∧ Blk wr w.heap.size TRW (v.cells d)) (fun k _ _ => d.fields.length - (intOf k).toNat)
    case atStart => exact ⟨0, Nat.zero_le _, rfl, by rw [HB0.out] <;> first | rfl | (simp <;> omega), HBA.out, HB1.out⟩
    case round =>
      obtain ⟨j, hj, rfl, rfl, hb, hk⟩ := hrel
      have HB := Lib.hid hb
      have HK := Lib.hid hk
      have hc0 : wr.cell? ⟨w.heap.size, 0, none⟩ = some (.slice v.A0 d.fields.length v.c0) := HK.out.cell 0
      clear hb hk
      by_cases hlt : j < d.fields.length
      · obtain ⟨ad, hA, A', c', hr0, _, _⟩ := row_at HV.out.h0 hlt
        have hr1 := pw_cell_below HB.out hr0
        have hrl := HR.out _ (List.getElem_mem hlt)
        have HBS := Lib.hid (bigD_step d j hlt)
        generalize d.fields[j] = row at *
        obtain ⟨A0, c0, A1, c1, A2, c2, A3, c3, A4, c4⟩ := v
        simp only at hA hc0
        subst hA
        clear hr0
        cases hbj : bigD d j
        · have hbs := HBS.out
          rw [hbj, Bool.false_or] at hbs
          have HBS2 := Lib.hid hbs
          clear hbs
          go_wp2
          go_roundw
          case rel => exact ⟨j + 1, by omega, by go_num, by rw [HBS2.out]; exact congrArg Value.bool (decide_eq_decide.2 (by omega)), HB.out, HK.out⟩
          case measure => simp [intOf]; omega
        · go_wp2
          go_roundw
          case rel => exact ⟨j + 1, by omega, by go_num, by rw [HBS.out, hbj]; rfl, HB.out, HK.out⟩
          case measure => simp [intOf]; omega
      · have hje : j = d.fields.length := by omega
        subst hje
        clear hlt hj
        cases hbj : bigD d d.fields.length
        case true =>
          have hs : checkD d = 2 := by unfold checkD; rw [if_pos ((bigD_all d).1 hbj)]
          rw [hs] at HQ'
          go_wp2
          exact HQ'.out _ _ ⟨rfl, HB.out⟩
        try exact (bigD_mono d HB0.out hbj).elim
        all_goals
          have hcf : checkD d = formD d := by unfold checkD; rw [if_neg (fun h => by rw [(bigD_all d).2 h] at hbj; cases hbj)]
          rw [hcf] at HQ'
          clear hcf hbj
          have hc1 : wr.cell? ⟨w.heap.size, 1, none⟩ = some (.slice v.A1 d.infos.length v.c1) := HK.out.cell 1
          have hc2 : wr.cell? ⟨w.heap.size, 2, none⟩ = some (.slice v.A2 d.marks.length v.c2) := HK.out.cell 2
          have hc3 : wr.cell? ⟨w.heap.size, 3, none⟩ = some (.slice v.A3 d.states.length v.c3) := HK.out.cell 3
          have hc4 : wr.cell? ⟨w.heap.size, 4, none⟩ = some (.slice v.A4 d.frozen.length v.c4) := HK.out.cell 4
          by_cases e1 : d.infos.length = d.fields.length
          case neg =>
            have hs : formD d = 3 := by unfold formD; rw [if_neg (fun h => e1 h.1)]
            rw [hs] at HQ'
            go_wp2
            exact HQ'.out _ _ ⟨rfl, HB.out⟩
          by_cases e2 : d.marks.length = d.fields.length
          case neg =>
            have hs : formD d = 3 := by unfold formD; rw [if_neg (fun h => e2 h.2.1)]
            rw [hs] at HQ'
            go_wp2
            exact HQ'.out _ _ ⟨rfl, HB.out⟩
          by_cases e4 : d.frozen.length = d.states.length
          case neg =>
            have hs : formD d = 3 := by unfold formD; rw [if_neg (fun h => e4 h.2.2.1)]
            rw [hs] at HQ'
            go_wp2
            exact HQ'.out _ _ ⟨rfl, HB.out⟩
          have HE1 := Lib.hid (show ∀ i, i < d.fields.length → infoB d i = false → formD d = 3 from fun i hi h => by unfold formD; rw [if_neg (fun k => by have := (k.2.2.2.1 i hi).1; rw [h] at this; cases this)])
          have HE2 := Lib.hid (show ∀ i, i < d.fields.length → rowB d (d.fields.getD i []) = true → formD d = 3 from fun i hi h => by unfold formD; rw [if_neg (fun k => by have := (k.2.2.2.1 i hi).2; rw [h] at this; cases this)])
          have HE3 := Lib.hid (show d.states.any (fun n => !inD n 0 3) = true → formD d = 3 from fun h => by unfold formD; rw [if_neg (fun k => by have := k.2.2.2.2; rw [h] at this; cases this)])
          have HE4 := Lib.hid (show (∀ i, i < d.fields.length → infoB d i = true ∧ rowB d (d.fields.getD i []) = false) → d.states.any (fun n => !inD n 0 3) = false → formD d = 0 from fun h1 h2 => by unfold formD; rw [if_pos ⟨e1, e2, e4, h1, h2⟩])
          have E1 := Lib.hid e1
          go_wp2
          clear e1 e2 e4 hc0 hc1 hc2 hc3 hc4
          go_loopw [5] (fun k wr => ∃ j : Nat, j ≤ d.fields.length ∧ k = .int .i64 j ∧ (∀ i, i < j → infoB d i = true ∧ rowB d (d.fields.getD i []) = false) ∧ Below w.heap.size w wr ∧ Blk wr w.heap.size TRW (v.cells d)) (fun k _ => d.fields.length - (intOf k).toNat)
          case atStart => exact ⟨0, Nat.zero_le _, rfl, fun i hi => absurd hi (Nat.not_lt_zero i), HB.out, HK.out⟩
          case round =>
            clear HB HK
            obtain ⟨j, hj, rfl, hok, hb, hk⟩ := hrel
            have HOK := Lib.hid hok
            have HW := Lib.hid hb
            have HK := Lib.hid hk
            clear hok hb hk
            have hc0 : wr.cell? ⟨w.heap.size, 0, none⟩ = some (.slice v.A0 d.fields.length v.c0) := HK.out.cell 0
            have hc3 : wr.cell? ⟨w.heap.size, 3, none⟩ = some (.slice v.A3 d.states.length v.c3) := HK.out.cell 3
            by_cases hlt : j < d.fields.length
            · obtain ⟨ad, hA, A0', c0', hcr1, _, hrow⟩ := row_at HV.out.h0 hlt
              obtain ⟨ad1, hA1, hci⟩ := int_at HV.out.h1 (j := j) (by rw [E1.out]; exact hlt)
              have hrl := HR.out _ (getD_mem hlt [])
              have hgi : d.infos.getD j 0 = d.infos[j]'(by rw [E1.out]; exact hlt) := by simp [List.getD_eq_getElem?_getD, List.getElem?_eq_getElem (show j < d.infos.length by rw [E1.out]; exact hlt)]
              rw [← hgi] at hci
              have HCI := Lib.hid hci
              have hgr : d.fields.getD j [] = d.fields[j] := by simp [List.getD_eq_getElem?_getD, List.getElem?_eq_getElem hlt]
              rw [← hgr] at hrow hcr1
              have HCR := Lib.hid hcr1
              have HROW := Lib.hid hrow
              have HI1 := Lib.hid (HE1.out j hlt)
              have HI2 := Lib.hid (HE2.out j hlt)
              have HNX := Lib.hid (show infoB d j = true → rowB d (d.fields.getD j []) = false → ∀ i, i < j + 1 → infoB d i = true ∧ rowB d (d.fields.getD i []) = false from fun h1 h2 i hi => by
                rcases Nat.lt_or_ge i j with h | h
                · exact HOK.out i h
                · have : i = j := by omega
                  subst this; exact ⟨h1, h2⟩)
              have hcr := pw_cell_below HW.out hcr1
              unfold infoB at HI1 HNX
              unfold rowB at HI2 HNX
              clear hcr1 hci hgi hgr hrow HOK
              generalize d.fields.getD j [] = row at *
              generalize d.infos.getD j 0 = n at *
              obtain ⟨A0, c0, A1, c1, A2, c2, A3, c3, A4, c4⟩ := v
              simp only at hA hA1 hc0 hc3
              subst hA hA1
              go_wp2
              go_loopw [6] (fun k wr => ∃ q : Nat, q ≤ row.length ∧ k = .int .i64 q ∧ (∀ i, i < q → ∀ x, row[i]? = some x → inD x (-1) d.fields.length = true) ∧ Below w.heap.size w wr ∧ Blk wr w.heap.size TRW (({ A0 := some ad, c0 := c0, A1 := some ad1, c1 := c1, A2 := A2, c2 := c2, A3 := A3, c3 := c3, A4 := A4, c4 := c4 } : WV).cells d)) (fun k _ => row.length - (intOf k).toNat)
              case atStart => exact ⟨0, Nat.zero_le _, rfl, fun i hi => absurd hi (Nat.not_lt_zero i), HW.out, HK.out⟩
              case round =>
                clear HK HW
                obtain ⟨q, hq, rfl, hok, hb, hk⟩ := hrel
                have HOK := Lib.hid hok
                have HW := Lib.hid hb
                have HK := Lib.hid hk
                clear hok hb hk
                have hc0 : wr.cell? ⟨w.heap.size, 0, none⟩ = some (.slice (some ad) d.fields.length c0) := HK.out.cell 0
                have hc1 : wr.cell? ⟨w.heap.size, 1, none⟩ = some (.slice (some ad1) d.infos.length c1) := HK.out.cell 1
                have hc3 : wr.cell? ⟨w.heap.size, 3, none⟩ = some (.slice A3 d.states.length c3) := HK.out.cell 3
                have hcr := pw_cell_below HW.out HCR.out
                by_cases hlt2 : q < row.length
                · obtain ⟨ad2, rfl, hce⟩ := (row1_of_C HROW.out).at_ (j := q) (u := Value.int .i64 row[q]) (by simp [List.getElem?_eq_getElem hlt2])
                  have hce := pw_cell_below HW.out hce
                  have HX := Lib.hid (List.getElem?_eq_getElem hlt2)
                  have HMEM := Lib.hid (List.getElem_mem hlt2)
                  generalize row[q] = x at *
                  cases hin : inD x (-1) d.fields.length
                  · have hs := HI2.out (List.any_eq_true.2 ⟨x, HMEM.out, by rw [hin]; rfl⟩)
                    rw [hs] at HQ'
                    have HIN := Lib.hid (fun w => ref_in_of x (-1) d.fields.length _ hin w)
                    clear hin
                    go_wp2
                    go_quiet ((go_at_call 100; exact Calls.quiet_of_same (HIN.out _)))
                    go_wp2
                    exact HQ'.out _ _ ⟨rfl, pw_below_drewN HW.out _⟩
                  · have HIN := Lib.hid (fun w => ref_in_of x (-1) d.fields.length _ hin w)
                    have HOK2 := Lib.hid (show ∀ i, i < q + 1 → ∀ x, row[i]? = some x → inD x (-1) d.fields.length = true from fun i hi y hy => by
                      rcases Nat.lt_or_ge i q with h | h
                      · exact HOK.out i h y hy
                      · have : i = q := by omega
                        subst this
                        rw [HX.out] at hy
                        cases hy
                        exact hin)
                    clear hin
                    go_wp2
                    go_quiet ((go_at_call 100; exact Calls.quiet_of_same (HIN.out _)))
                    go_wp2
                    go_roundw
                    case rel => exact ⟨q + 1, by omega, by go_num, HOK2.out, pw_below_drewN HW.out _, HK.out⟩
                    case measure => simp [intOf]; omega
                · have hrn := HNX.out
                  have HROK := Lib.hid (show row.any (fun n => !inD n (-1) d.fields.length) = false from List.any_eq_false.2 fun y hy => by
                    obtain ⟨i, hi, rfl⟩ := List.getElem_of_mem hy
                    rw [HOK.out i (by omega) _ (List.getElem?_eq_getElem hi)]
                    decide)
                  have hci := pw_cell_below HW.out HCI.out
                  have hlt3 : j < d.infos.length := by rw [E1.out]; exact hlt
                  cases hin : inD n (-1) d.states.length
                  · have hs := HI1.out hin
                    rw [hs] at HQ'
                    have HIN := Lib.hid (fun w => ref_in_of n (-1) d.states.length _ hin w)
                    clear hin hrn
                    go_wp2
                    go_quiet ((go_at_call 100; exact Calls.quiet_of_same (HIN.out _)))
                    go_wp2
                    exact HQ'.out _ _ ⟨rfl, pw_below_drewN HW.out _⟩
                  · have HIN := Lib.hid (fun w => ref_in_of n (-1) d.states.length _ hin w)
                    have HOK2 := Lib.hid (hrn hin HROK.out)
                    clear hin hrn
                    go_wp2
                    go_quiet ((go_at_call 100; exact Calls.quiet_of_same (HIN.out _)))
                    go_wp2
                    go_roundw
                    case rel => exact ⟨j + 1, by omega, by go_num, HOK2.out, pw_below_drewN HW.out _, HK.out⟩
                    case measure => simp [intOf]; omega
            · have hje : j = d.fields.length := by omega
              subst hje
              have HOKS := Lib.hid (HE4.out HOK.out)
              clear hlt hj HOK HE1 HE2 HE4
              go_wp2
              go_loopw [7] (fun k wr => ∃ q : Nat, q ≤ d.states.length ∧ k = .int .i64 q ∧ (∀ i, i < q → ∀ x, d.states[i]? = some x → inD x 0 3 = true) ∧ Below w.heap.size w wr ∧ Blk wr w.heap.size TRW (v.cells d)) (fun k _ => d.states.length - (intOf k).toNat)
              case atStart => exact ⟨0, Nat.zero_le _, rfl, fun i hi => absurd hi (Nat.not_lt_zero i), HW.out, HK.out⟩
              case round =>
                clear HK HW hc3 hc0
                obtain ⟨q, hq, rfl, hok, hb, hk⟩ := hrel
                have HOK := Lib.hid hok
                have HW := Lib.hid hb
                have HK := Lib.hid hk
                clear hok hb hk
                have hc3 : wr.cell? ⟨w.heap.size, 3, none⟩ = some (.slice v.A3 d.states.length v.c3) := HK.out.cell 3
                by_cases hlt2 : q < d.states.length
                · obtain ⟨ad2, hA3, hce⟩ := int_at HV.out.h3 (j := q) hlt2
                  have hce := pw_cell_below HW.out hce
                  have HX := Lib.hid (List.getElem?_eq_getElem hlt2)
                  have HMEM := Lib.hid (List.getElem_mem hlt2)
                  generalize d.states[q] = x at *
                  obtain ⟨A0, c0, A1, c1, A2, c2, A3, c3, A4, c4⟩ := v
                  simp only at hA3 hc3
                  subst hA3
                  cases hin : inD x 0 3
                  · have hs := HE3.out (List.any_eq_true.2 ⟨x, HMEM.out, by rw [hin]; rfl⟩)
                    rw [hs] at HQ'
                    have HIN := Lib.hid (fun w => ref_in_of2 x 0 2 _ hin w)
                    clear hin
                    go_wp2_with fail
                    refine (HIN.out _).mono ?_
                    rintro e w1 ⟨rfl, rfl⟩
                    go_wp2
                    exact HQ'.out _ _ ⟨rfl, HW.out⟩
                  · have HIN := Lib.hid (fun w => ref_in_of2 x 0 2 _ hin w)
                    have HOK2 := Lib.hid (show ∀ i, i < q + 1 → ∀ x, d.states[i]? = some x → inD x 0 3 = true from fun i hi y hy => by
                      rcases Nat.lt_or_ge i q with h | h
                      · exact HOK.out i h y hy
                      · have : i = q := by omega
                        subst this
                        rw [HX.out] at hy
                        cases hy
                        exact hin)
                    clear hin
                    go_wp2_with fail
                    refine (HIN.out _).mono ?_
                    rintro e w1 ⟨rfl, rfl⟩
                    go_wp2
                    go_roundw
                    case rel => exact ⟨q + 1, by omega, by go_num, HOK2.out, HW.out, HK.out⟩
                    case measure => simp [intOf]; omega
                · have hs := HOKS.out (List.any_eq_false.2 fun y hy => by
                    obtain ⟨i, hi, rfl⟩ := List.getElem_of_mem hy
                    rw [HOK.out i (by omega) _ (List.getElem?_eq_getElem hi)]
                    decide)
                  rw [hs] at HQ'
                  go_wp2
                  exact HQ'.out _ _ ⟨rfl, HW.out⟩
end Go.Proofs.Ytphhdmopfmelbaa
