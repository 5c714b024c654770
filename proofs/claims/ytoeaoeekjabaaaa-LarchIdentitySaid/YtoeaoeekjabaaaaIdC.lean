/- cell.Ids: its closures, ContainsFunc, check. -/
import Derived.Test.YtoeaoeekjabaaaaIdA
import Derived.Test.YtoeaoeekjabaaaaIdB
import Derived.Test.YtoeaoeekjabaaaaIdx
namespace Go.Proofs.Ytoeaoeekjabaaaa
open Go.RowKit Go.Proofs.YtoeaoeekjabaaaaW.PrintWords
set_option linter.unusedVariables false
set_option linter.unusedSimpArgs false

theorem cell_simple (w : World) (k : Int) : Calls Try.prog 12 #[.int .i64 k] w fun e w' => e = .returned (.bool (decide (knownI k))) ∧ w = w' := by
  by_cases h1 : k = 1
  · subst h1
    go_enter Try.func12, Try.ntmps12
    go_wp2
    go_ret
    exact ⟨rfl, rfl⟩
  · by_cases h2 : k = 2
    · subst h2
      go_enter Try.func12, Try.ntmps12
      go_wp2
      go_ret
      exact ⟨rfl, rfl⟩
    · by_cases h4 : k = 4
      · subst h4
        go_enter Try.func12, Try.ntmps12
        go_wp2
        go_ret
        exact ⟨rfl, rfl⟩
      · have hk : decide (knownI k) = decide (k = 5) := by simp [knownI, h1, h2, h4]
        rw [hk]
        clear hk
        go_enter Try.func12, Try.ntmps12
        go_wp2
        go_ret
        exact ⟨congrArg (fun q => Ending.returned (Value.bool q)) (show (k == 1 || k == 2 || k == 4 || k == 5) = decide (k = 5) by rw [Bool.eq_iff_iff]; simp [h1, h2, h4]), rfl⟩

/-- The closure 'right', the box of things at bt. -/
abbrev fRight (bt : Nat) : Value := .func (.func 7) #[] #[.pointer (some ⟨bt, 0, none⟩)]
theorem ids_right (w : World) (bt : Nat) (t n : Int) (hc : w.cell? ⟨bt, 0, none⟩ = some (.int .i64 t)) :
    Calls Try.prog 7 #[.int .i64 n, .pointer (some ⟨bt, 0, none⟩)] w fun e w' => e = .returned (.bool (decide (rightI t n))) ∧ w = w' := by
  by_cases h : -1 ≤ n
  · have hd : decide (rightI t n) = decide (n < t) := by simp [rightI, h]
    rw [hd]
    clear hd
    go_enter Try.func7, Try.ntmps7
    go_wp2
    go_ret
    exact ⟨by first | rfl | simp, rfl⟩
  · have hd : decide (rightI t n) = false := by simp [rightI, h]
    rw [hd]
    clear hd
    go_enter Try.func7, Try.ntmps7
    go_wp2
    go_ret
    exact ⟨by first | rfl | simp, rfl⟩
/-- The box of 'right' at br. -/
structure BoxR (w : World) (bt br : Nat) (t : Int) : Prop where
  t : w.cell? ⟨bt, 0, none⟩ = some (.int .i64 t)
  r : w.cell? ⟨br, 0, none⟩ = some (fRight bt)
theorem BoxR.below {w w' : World} {bt br : Nat} {t : Int} (h : BoxR w bt br t) (hb : Below w.heap.size w w') : BoxR w' bt br t := ⟨pw_cell_below hb h.t, pw_cell_below hb h.r⟩
theorem ids_wrong (w : World) (bt br : Nat) (t n : Int) (h : BoxR w bt br t) :
    Calls Try.prog 9 #[.int .i64 n, .pointer (some ⟨br, 0, none⟩)] w fun e w' => e = .returned (.bool (!decide (rightI t n))) ∧ w = w' := by
  have hc := h.r
  have HR := Lib.hid (ids_right w bt t n h.t)
  clear h
  generalize decide (rightI t n) = q at *
  go_enter Try.func9, Try.ntmps9
  go_wp2_with fail
  refine HR.out.mono ?_
  rintro e w1 ⟨rfl, rfl⟩
  go_wp2
  go_ret
  exact ⟨rfl, rfl⟩
/-- slices.IndexFunc of 'not right': is there one? -/
theorem ids_index (w : World) (A : Option Addr) (c : Nat) (xs : List Int) (hx : Row1 w A xs.length (xs.map (Value.int .i64))) (hl : xs.length ≤ 1000000000) (bt br : Nat) (t : Int) (h : BoxR w bt br t) :
    Calls Try.prog 24 #[.slice A xs.length c, .func (.func 9) #[] #[.pointer (some ⟨br, 0, none⟩)]] w fun e w' => ∃ k : Int, e = .returned (.int .i64 k) ∧ w = w' ∧ (0 ≤ k ↔ ∃ n ∈ xs, ¬ rightI t n) := by
  refine calls_hide fun Q HQ => ?_
  have HQ' := Lib.hid HQ
  have HX := Lib.hid hx
  have HB := Lib.hid h
  clear HQ hx h
  go_enter Try.func24, Try.ntmps24
  go_wp2
  go_loopw [8] (fun k wr => ∃ j : Nat, j ≤ xs.length ∧ k = .int .i64 j ∧ wr = w ∧ ∀ i n, i < j → xs[i]? = some n → rightI t n) (fun k _ => xs.length - (intOf k).toNat)
  case atStart => exact ⟨0, Nat.zero_le _, rfl, rfl, fun i n hi => by omega⟩
  case round =>
    obtain ⟨j, hj, rfl, hw, hr⟩ := hrel
    subst hw
    have HR := Lib.hid hr
    clear hr
    by_cases hlt : j < xs.length
    · obtain ⟨n, hn⟩ : ∃ n, xs[j]? = some n := ⟨_, List.getElem?_eq_getElem hlt⟩
      obtain ⟨ad, rfl, hc⟩ := HX.out.at_ (j := j) (u := .int .i64 n) (by rw [List.getElem?_map, hn]; rfl)
      have HN := Lib.hid hn
      have HW := Lib.hid (ids_wrong wr bt br t n HB.out)
      clear hn
      by_cases hq : rightI t n
      · have HQ := Lib.hid hq
        rw [decide_eq_true hq] at HW
        clear hq
        go_wp2_with fail
        refine HW.out.mono ?_
        rintro e w1 ⟨rfl, rfl⟩
        go_wp2
        go_roundw
        case rel => exact ⟨j + 1, by omega, by go_num, by first | trivial | rfl, fun i m hi hm => by
          rcases Nat.lt_or_ge i j with h1 | h1
          · exact HR.out i m h1 hm
          · have : i = j := by omega
            subst this
            rw [HN.out] at hm
            cases hm
            exact HQ.out⟩
        case measure => simp [intOf]; omega
      · have HQ := Lib.hid hq
        rw [decide_eq_false hq] at HW
        clear hq
        go_wp2_with fail
        refine HW.out.mono ?_
        rintro e w1 ⟨rfl, rfl⟩
        go_wp2
        exact HQ'.out _ _ ⟨_, rfl, rfl, fun _ => ⟨n, List.mem_of_getElem? HN.out, HQ.out⟩, fun _ => by omega⟩
    · have hje : j = xs.length := by omega
      subst hje
      go_wp2
      exact HQ'.out _ _ ⟨_, rfl, rfl, fun h => absurd h (by decide), fun ⟨n, hn, hq⟩ => by
        obtain ⟨i, hi⟩ := List.getElem?_of_mem hn
        exact absurd (HR.out i n (List.getElem?_eq_some_iff.1 hi).1 hi) hq⟩
theorem ids_contains (w : World) (A : Option Addr) (c : Nat) (xs : List Int) (hx : Row1 w A xs.length (xs.map (Value.int .i64))) (hl : xs.length ≤ 1000000000) (bt br : Nat) (t : Int) (h : BoxR w bt br t) :
    Calls Try.prog 8 #[.slice A xs.length c, .func (.func 9) #[] #[.pointer (some ⟨br, 0, none⟩)]] w fun e w' => e = .returned (.bool (decide (∃ n ∈ xs, ¬ rightI t n))) ∧ w = w' := by
  refine calls_hide fun Q HQ => ?_
  have HQ' := Lib.hid HQ
  have HI := Lib.hid (ids_index w A c xs hx hl bt br t h)
  clear HQ hx h hl
  go_enter Try.func8, Try.ntmps8
  go_wp2_with fail
  refine HI.out.mono ?_
  rintro e w1 ⟨k, rfl, rfl, hk⟩
  have HK := Lib.hid hk
  clear hk
  go_wp2
  exact HQ'.out _ _ ⟨congrArg (fun q => Ending.returned (Value.bool q)) (decide_eq_decide.2 HK.out), rfl⟩
/-- The closure 'fits'. -/
theorem ids_fits (w : World) (bt br : Nat) (t : Int) (x : CA) (h : BoxR w bt br t) :
    Calls Try.prog 10 #[x.val, .pointer (some ⟨br, 0, none⟩)] w fun e w' => e = .returned (.bool (decide (fitsI t x))) ∧ Below w.heap.size w w' := by
  refine calls_hide fun Q HQ => ?_
  have HQ' := Lib.hid HQ
  have hal := (Below.refl w.heap.size w).alloc (Nat.le_refl _) (.cells x.cells.toArray 28)
  have HB := Lib.hid hal
  have hb := Blk.new w 28 x.cells
  have h0 := hb.cell 0
  have h1 := hb.cell 1
  have h2 := hb.cell 2
  have h3 := hb.cell 3
  simp only [List.getElem?_cons_zero, List.getElem?_cons_succ] at h0 h1 h2 h3
  have hr := (h.below hal).r
  have HA := Lib.hid (ids_right (w.alloc (.cells x.cells.toArray 28)) bt t x.a (h.below hal).t)
  have HC := Lib.hid (ids_right (w.alloc (.cells x.cells.toArray 28)) bt t x.b (h.below hal).t)
  have HF := Lib.hid (show fitsI t x ↔ (x.k = 1 ∨ (rightI t x.a ∧ (¬ x.k = 5 ∨ rightI t x.b))) from Iff.rfl)
  obtain ⟨k, at_, a, b⟩ := x
  simp only at h0 h1 h2 h3 HA HC HF HB hr
  clear HQ h hb hal
  by_cases hk : k = 1
  · subst hk
    rw [decide_eq_true (HF.out.2 (.inl rfl))] at HQ'
    go_enter Try.func10, Try.ntmps10
    go_wp2
    exact HQ'.out _ _ ⟨rfl, HB.out⟩
  · by_cases ha : rightI t a
    · rw [decide_eq_true ha] at HA
      by_cases h5 : k = 5
      · subst h5
        have : decide (fitsI t ⟨5, at_, a, b⟩) = decide (rightI t b) := decide_eq_decide.2 (HF.out.trans (by simp [ha]))
        rw [this] at HQ'
        clear this ha
        generalize decide (rightI t b) = qb at *
        go_enter Try.func10, Try.ntmps10
        go_wp2_with fail
        refine HA.out.mono ?_
        rintro e w1 ⟨rfl, rfl⟩
        go_wp2_with fail
        refine HC.out.mono ?_
        rintro e w1 ⟨rfl, rfl⟩
        go_wp2
        exact HQ'.out _ _ ⟨rfl, HB.out⟩
      · rw [decide_eq_true (HF.out.2 (.inr ⟨ha, .inl h5⟩))] at HQ'
        clear ha
        go_enter Try.func10, Try.ntmps10
        go_wp2_with fail
        refine HA.out.mono ?_
        rintro e w1 ⟨rfl, rfl⟩
        go_wp2
        exact HQ'.out _ _ ⟨rfl, HB.out⟩
    · rw [decide_eq_false ha] at HA
      rw [decide_eq_false (fun hf => by rcases HF.out.1 hf with h | h; exact hk h; exact ha h.1)] at HQ'
      clear ha
      go_enter Try.func10, Try.ntmps10
      go_wp2_with fail
      refine HA.out.mono ?_
      rintro e w1 ⟨rfl, rfl⟩
      go_wp2
      exact HQ'.out _ _ ⟨congrArg (fun q => Ending.returned (Value.bool q)) (show (k == 1) = false by simpa using hk), HB.out⟩
end Go.Proofs.Ytoeaoeekjabaaaa
