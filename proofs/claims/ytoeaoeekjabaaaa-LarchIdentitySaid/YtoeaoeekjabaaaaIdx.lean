/- slices.Index of pointers. Written by mk.py. -/
import Derived.Test.YtoeaoeekjabaaaaCell
import Derived.Lib.Hide
namespace Go.Proofs.Ytoeaoeekjabaaaa
open Go.RowKit Go.Proofs.YtoeaoeekjabaaaaW.PrintWords
set_option linter.unusedVariables false
set_option linter.unusedSimpArgs false

/-- Where x stands first; -1: nowhere. -/
def idx (ps : List (Option Nat)) (x : Option Nat) : Int := match ps.findIdx? (fun p => decide (p = x)) with | some k => k | none => -1
theorem idx_hit {ps : List (Option Nat)} {x : Option Nat} {k : Nat} (hk : k < ps.length) (hn : ∀ j, j < k → ¬ ps[j]? = some x) (he : ps[k]? = some x) : idx ps x = k := by
  have : ps.findIdx? (fun p => decide (p = x)) = some k := by
    rw [List.findIdx?_eq_some_iff_getElem]
    refine ⟨hk, by simpa [List.getElem?_eq_getElem hk] using he, fun j hj => ?_⟩
    have := hn j hj
    simpa [List.getElem?_eq_getElem (show j < ps.length by omega)] using this
  simp [idx, this]
theorem idx_miss {ps : List (Option Nat)} {x : Option Nat} (hn : ∀ j, j < ps.length → ¬ ps[j]? = some x) : idx ps x = -1 := by
  have : ps.findIdx? (fun p => decide (p = x)) = none := by
    rw [List.findIdx?_eq_none_iff]
    intro p hp
    obtain ⟨j, hj, rfl⟩ := List.getElem_of_mem hp
    have := hn j hj
    simpa [List.getElem?_eq_getElem hj] using this
  simp [idx, this]

theorem psize_Pcellthing : ∃ i, Try.prog.info? 39 = some i ∧ i.size ≠ 0 := by
  obtain ⟨i, hi, hz⟩ := Option.map_eq_some_iff.1 size_cellthing
  exact ⟨i, hi, by simpa using hz⟩
set_option maxHeartbeats 400000 in
theorem index_Pcellthing (A : Option Addr) (c : Nat) (ps : List (Option Nat)) (x : Option Nat) (w : World) (hr : Row1 w A ps.length (ps.map pv)) (hk : ∀ p ∈ ps, Known w p) (hx : Known w x) (hl : ps.length ≤ 1000000000000) :
    Calls Try.prog 15 #[.slice A ps.length c, pv x] w fun e w' => e = .returned (.int .i64 (idx ps x)) ∧ w = w' := by
  obtain ⟨i, hi, hsz⟩ := psize_Pcellthing
  have HE := Lib.hid (fun p hp => run_eql_ptr (P := Try.prog) (w := w) (x := x) (y := p) Try.underlying37 hi hsz hx hp)
  have HK := Lib.hid hk
  have HR := Lib.hid hr
  have HH := Lib.hid (fun k => @idx_hit ps x k)
  have HM := Lib.hid (@idx_miss ps x)
  refine calls_hide fun Q HQ => ?_
  have HQ' := Lib.hid HQ
  clear HQ hr hk hx hi hsz
  go_enter Try.func15, Try.ntmps15
  go_wp2
  go_loop [8] (fun k => ∃ j : Nat, j ≤ ps.length ∧ k = .int .i64 j ∧ ∀ i, i < j → ¬ ps[i]? = some x) (fun k => ps.length - (intOf k).toNat)
  case atStart => exact ⟨0, Nat.zero_le _, rfl, fun i hi => by omega⟩
  case round =>
    obtain ⟨j, hj, rfl, hN⟩ := hrel
    have HN := Lib.hid hN
    clear hN
    by_cases hlt : j < ps.length
    · have hx0 : (ps.map pv)[j]? = some (pv (ps.getD j none)) := by simp [List.getD_eq_getElem?_getD, List.getElem?_eq_getElem hlt]
      have hx1 : ps[j]? = some (ps.getD j none) := by simp [List.getD_eq_getElem?_getD, List.getElem?_eq_getElem hlt]
      obtain ⟨ad, hA, hc⟩ := HR.out.at_ hx0
      have he := HE.out (ps.getD j none) (HK.out _ (List.mem_of_getElem? hx1))
      have H1 := Lib.hid hx1
      clear hx0 hx1 HR HK HE
      generalize ps.getD j none = p at *
      subst hA
      by_cases heq : x = p
      · rw [decide_eq_true heq] at he
        have HF := Lib.hid (HH.out j hlt HN.out (heq ▸ H1.out))
        clear heq HM HH HN H1
        go_wp2
        exact HQ'.out _ _ ⟨by rw [HF.out], rfl⟩
      · rw [decide_eq_false heq] at he
        have HN2 := Lib.hid (fun (i : Nat) (hi : i < j + 1) (hcx : ps[i]? = some x) => by
          rcases Nat.lt_or_eq_of_le (Nat.lt_succ_iff.1 hi) with h | h
          · exact HN.out i h hcx
          · subst h
            rw [H1.out] at hcx
            exact heq (Option.some.inj hcx).symm)
        clear heq HM HH HN H1 HQ'
        go_wp2
        go_round
        case rel => exact ⟨j + 1, by omega, by go_num, HN2.out⟩
        case measure => simp [intOf]; omega
    · obtain rfl : j = ps.length := by omega
      have HF := Lib.hid (HM.out HN.out)
      clear HM HH HN HR HK HE
      go_wp2
      exact HQ'.out _ _ ⟨by rw [HF.out], rfl⟩
end Go.Proofs.Ytoeaoeekjabaaaa
