/- larchref12: in, bit, SameInts, SameBools. Written by p_same.py. -/
import Derived.Test.YtphhdmopfmelbaaRecFormB
namespace Go.Proofs.Ytphhdmopfmelbaa
open Go.RowKit Go.Proofs.YtphhdmopfmelbaaW.PrintWords
set_option linter.unusedVariables false
set_option linter.unusedSimpArgs false

set_option maxHeartbeats 400000 in
theorem ref_in (n lo hi : Int) (w : World) : Calls Try.prog 100 #[.int .i64 n, .int .i64 lo, .int .i64 hi] w fun e w' => e = .returned (.bool (inD n lo (hi + 1))) ∧ w = w' := by
  unfold inD
  by_cases h1 : lo ≤ n
  · by_cases h2 : n ≤ hi
    · rw [decide_eq_true h1, decide_eq_true (show n < hi + 1 by omega)]
      go_enter Try.func100, Try.ntmps100
      go_wp2
      go_ret
      exact ⟨rfl, rfl⟩
    · rw [decide_eq_true h1, decide_eq_false (show ¬ n < hi + 1 by omega)]
      go_enter Try.func100, Try.ntmps100
      go_wp2
      go_ret
      exact ⟨rfl, rfl⟩
  · rw [decide_eq_false h1]
    go_enter Try.func100, Try.ntmps100
    go_wp2
    go_ret
    exact ⟨rfl, rfl⟩
set_option maxHeartbeats 400000 in
theorem ref_bit (f : Bool) (w : World) : Calls Try.prog 101 #[.bool f] w fun e w' => e = .returned (.int .i64 (bitI f)) ∧ w = w' := by
  cases f
  all_goals
    go_enter Try.func101, Try.ntmps101
    go_wp2
    go_ret
    exact ⟨rfl, rfl⟩
theorem eq_of_take {α : Type} {xs ys : List α} (hl : xs.length = ys.length) (h : ∀ i, i < xs.length → xs[i]? = ys[i]?) : xs = ys := by
  apply List.ext_getElem? 
  intro i
  rcases Nat.lt_or_ge i xs.length with hi | hi
  · exact h i hi
  · rw [List.getElem?_eq_none hi, List.getElem?_eq_none (by omega)]

set_option maxHeartbeats 1000000 in
theorem ref_SameInts (A : Option Addr) (c : Nat) (xs : List Int) (A' : Option Addr) (c' : Nat) (ys : List Int) (w : World) (hr : Row1 w A xs.length (xs.map (Value.int .i64))) (hr' : Row1 w A' ys.length (ys.map (Value.int .i64))) (hl : xs.length ≤ 1000000000000) :
    Calls Try.prog 21 #[.slice A xs.length c, .slice A' ys.length c'] w fun e w' => e = .returned (.bool (decide (xs = ys))) ∧ ∃ m, w' = w.drewN m := by
  refine calls_hide fun Q HQ => ?_
  have HQ' := Lib.hid HQ
  have HR := Lib.hid hr
  have HR' := Lib.hid hr'
  clear HQ hr hr'
  by_cases hlen : xs.length = ys.length
  case neg =>
    have hs : decide (xs = ys) = false := decide_eq_false (fun e => hlen (by rw [e]))
    rw [hs] at HQ'
    go_enter Try.func21, Try.ntmps21
    go_wp2
    exact HQ'.out _ _ ⟨rfl, 0, rfl⟩
  have HL := Lib.hid hlen
  have hA' : (.slice A' ys.length c' : Value) = .slice A' xs.length c' := by rw [hlen]
  rw [hA']
  clear hlen hA'
  have HNE := Lib.hid (show ∀ j (h1 : j < xs.length), xs[j] ≠ ys[j]'(by have := HL.out; omega) → decide (xs = ys) = false from fun j h1 h2 => decide_eq_false (fun e => h2 (by subst e; rfl)))
  have HEQ := Lib.hid (show (∀ i, i < xs.length → xs[i]? = ys[i]?) → decide (xs = ys) = true from fun h => decide_eq_true (eq_of_take HL.out h))
  go_enter Try.func21, Try.ntmps21
  go_wp2
  go_loopw [5] (fun k wr => ∃ j : Nat, j ≤ xs.length ∧ k = .int .i64 j ∧ (∀ i, i < j → xs[i]? = ys[i]?) ∧ ∃ m, wr = w.drewN m) (fun k _ => xs.length - (intOf k).toNat)
  case atStart => exact ⟨0, Nat.zero_le _, rfl, fun i hi => absurd hi (Nat.not_lt_zero i), 0, rfl⟩
  case round =>
    obtain ⟨j, hj, rfl, hn, m, rfl⟩ := hrel
    have HN := Lib.hid hn
    clear hn
    by_cases hlt : j < xs.length
    · have hlt2 : j < ys.length := by have := HL.out; omega
      obtain ⟨ad, rfl, hc0⟩ := HR.out.at_ (j := j) (u := Value.int .i64 xs[j]) (by simp [List.getElem?_eq_getElem hlt])
      obtain ⟨ad', rfl, hc0'⟩ := HR'.out.at_ (j := j) (u := Value.int .i64 ys[j]) (by simp [List.getElem?_eq_getElem hlt2])
      have HX := Lib.hid (List.getElem?_eq_getElem hlt)
      have HY := Lib.hid (List.getElem?_eq_getElem hlt2)
      have HNE2 := Lib.hid (HNE.out j hlt)
      generalize xs[j] = x at *
      generalize ys[j] = y at *
      by_cases hxy : x = y
      · subst hxy
        go_wp2
        go_quiet (fail)
        go_wp2
        go_roundw
        case rel => exact ⟨j + 1, by omega, by go_num, fun i hi => by
          rcases Nat.lt_or_ge i j with h | h
          · exact HN.out i h
          · have : i = j := by omega
            subst this
            rw [HX.out, HY.out], m + nq, by first | rfl | exact World.drewN_drewN _ _ _⟩
        case measure => simp [intOf]; omega
      · have hs := HNE2.out hxy
        rw [hs] at HQ'
        skip
        all_goals
          go_wp2
          go_quiet (fail)
          go_wp2
          exact HQ'.out _ _ ⟨rfl, m + nq, by first | rfl | exact World.drewN_drewN _ _ _⟩
    · have hje : j = xs.length := by omega
      subst hje
      have hs := HEQ.out HN.out
      rw [hs] at HQ'
      go_wp2
      exact HQ'.out _ _ ⟨rfl, m, rfl⟩

set_option maxHeartbeats 1000000 in
theorem ref_SameBools (A : Option Addr) (c : Nat) (xs : List Bool) (A' : Option Addr) (c' : Nat) (ys : List Bool) (w : World) (hr : Row1 w A xs.length (xs.map (Value.bool))) (hr' : Row1 w A' ys.length (ys.map (Value.bool))) (hl : xs.length ≤ 1000000000000) :
    Calls Try.prog 47 #[.slice A xs.length c, .slice A' ys.length c'] w fun e w' => e = .returned (.bool (decide (xs = ys))) ∧ ∃ m, w' = w.drewN m := by
  refine calls_hide fun Q HQ => ?_
  have HQ' := Lib.hid HQ
  have HR := Lib.hid hr
  have HR' := Lib.hid hr'
  clear HQ hr hr'
  by_cases hlen : xs.length = ys.length
  case neg =>
    have hs : decide (xs = ys) = false := decide_eq_false (fun e => hlen (by rw [e]))
    rw [hs] at HQ'
    go_enter Try.func47, Try.ntmps47
    go_wp2
    exact HQ'.out _ _ ⟨rfl, 0, rfl⟩
  have HL := Lib.hid hlen
  have hA' : (.slice A' ys.length c' : Value) = .slice A' xs.length c' := by rw [hlen]
  rw [hA']
  clear hlen hA'
  have HNE := Lib.hid (show ∀ j (h1 : j < xs.length), xs[j] ≠ ys[j]'(by have := HL.out; omega) → decide (xs = ys) = false from fun j h1 h2 => decide_eq_false (fun e => h2 (by subst e; rfl)))
  have HEQ := Lib.hid (show (∀ i, i < xs.length → xs[i]? = ys[i]?) → decide (xs = ys) = true from fun h => decide_eq_true (eq_of_take HL.out h))
  go_enter Try.func47, Try.ntmps47
  go_wp2
  go_loopw [5] (fun k wr => ∃ j : Nat, j ≤ xs.length ∧ k = .int .i64 j ∧ (∀ i, i < j → xs[i]? = ys[i]?) ∧ ∃ m, wr = w.drewN m) (fun k _ => xs.length - (intOf k).toNat)
  case atStart => exact ⟨0, Nat.zero_le _, rfl, fun i hi => absurd hi (Nat.not_lt_zero i), 0, rfl⟩
  case round =>
    obtain ⟨j, hj, rfl, hn, m, rfl⟩ := hrel
    have HN := Lib.hid hn
    clear hn
    by_cases hlt : j < xs.length
    · have hlt2 : j < ys.length := by have := HL.out; omega
      obtain ⟨ad, rfl, hc0⟩ := HR.out.at_ (j := j) (u := Value.bool xs[j]) (by simp [List.getElem?_eq_getElem hlt])
      obtain ⟨ad', rfl, hc0'⟩ := HR'.out.at_ (j := j) (u := Value.bool ys[j]) (by simp [List.getElem?_eq_getElem hlt2])
      have HX := Lib.hid (List.getElem?_eq_getElem hlt)
      have HY := Lib.hid (List.getElem?_eq_getElem hlt2)
      have HNE2 := Lib.hid (HNE.out j hlt)
      generalize xs[j] = x at *
      generalize ys[j] = y at *
      by_cases hxy : x = y
      · subst hxy
        go_wp2
        go_quiet (fail)
        go_wp2
        go_roundw
        case rel => exact ⟨j + 1, by omega, by go_num, fun i hi => by
          rcases Nat.lt_or_ge i j with h | h
          · exact HN.out i h
          · have : i = j := by omega
            subst this
            rw [HX.out, HY.out], m + nq, by first | rfl | exact World.drewN_drewN _ _ _⟩
        case measure => simp [intOf]; omega
      · have hs := HNE2.out hxy
        rw [hs] at HQ'
        (cases x <;> cases y) <;> (first | exact absurd rfl hxy | skip)
        all_goals
          go_wp2
          go_quiet (fail)
          go_wp2
          exact HQ'.out _ _ ⟨rfl, m + nq, by first | rfl | exact World.drewN_drewN _ _ _⟩
    · have hje : j = xs.length := by omega
      subst hje
      have hs := HEQ.out HN.out
      rw [hs] at HQ'
      go_wp2
      exact HQ'.out _ _ ⟨rfl, m, rfl⟩

end Go.Proofs.Ytphhdmopfmelbaa
