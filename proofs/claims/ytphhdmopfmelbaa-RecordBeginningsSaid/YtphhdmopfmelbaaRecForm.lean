/- record: form. Written in part by p_form.py. -/
import Derived.Test.YtphhdmopfmelbaaRecRef
namespace Go.Proofs.Ytphhdmopfmelbaa
open Go.RowKit Go.Proofs.YtphhdmopfmelbaaW.PrintWords
set_option linter.unusedVariables false
set_option linter.unusedSimpArgs false

def fidx (p : Int → Bool) (ns : List Int) : Int := match ns.findIdx? p with | some k => k | none => -1
theorem fidx_hit {p : Int → Bool} {ns : List Int} {k : Nat} (hk : k < ns.length) (hn : ∀ j, j < k → ∀ n, ns[j]? = some n → p n = false) (he : p ns[k] = true) : fidx p ns = k := by
  have : ns.findIdx? p = some k := by
    rw [List.findIdx?_eq_some_iff_getElem]
    exact ⟨hk, he, fun j hj => by simp [hn j hj _ (List.getElem?_eq_getElem (by omega))]⟩
  simp [fidx, this]
theorem fidx_miss {p : Int → Bool} {ns : List Int} (hn : ∀ j, j < ns.length → ∀ n, ns[j]? = some n → p n = false) : fidx p ns = -1 := by
  have : ns.findIdx? p = none := by
    rw [List.findIdx?_eq_none_iff]
    intro n hm
    obtain ⟨j, hj⟩ := List.getElem?_of_mem hm
    exact hn j (List.getElem?_eq_some_iff.1 hj).1 n hj
  simp [fidx, this]
theorem fidx_any (p : Int → Bool) (ns : List Int) : decide (fidx p ns ≥ 0) = ns.any p := by
  unfold fidx
  cases h : ns.findIdx? p with
  | none =>
    rw [List.findIdx?_eq_none_iff] at h
    have : ns.any p = false := by
      rw [Bool.eq_false_iff]
      intro h2
      obtain ⟨x, hx, hp⟩ := List.any_eq_true.1 h2
      rw [h x hx] at hp; cases hp
    rw [this]; rfl
  | some k =>
    rw [List.findIdx?_eq_some_iff_getElem] at h
    obtain ⟨hk, hp, _⟩ := h
    have : ns.any p = true := List.any_eq_true.2 ⟨_, List.getElem_mem hk, hp⟩
    rw [this]
    simp

set_option maxHeartbeats 400000 in
theorem form_1 (bx F : Nat) (A0 : Option Addr) (c0 : Nat) (n : Int) (w : World) (hb : w.cell? ⟨bx, 0, none⟩ = some (.slice A0 F c0)) : Calls Try.prog 83 #[.int .i64 n, .pointer (some ⟨bx, 0, none⟩)] w fun e w' => e = .returned (.bool ((fun n => !inD n (-1) F) n)) ∧ w = w' := by
  refine calls_hide fun Q HQ => ?_
  have HQ' := Lib.hid HQ
  clear HQ
  go_enter Try.func83, Try.ntmps83
  go_wp2_with fail
  refine (rec_within n (-1) F w).mono ?_
  rintro e w1 ⟨rfl, rfl⟩
  generalize inD n (-1) F = r at *
  go_wp2
  exact HQ'.out _ _ ⟨rfl, rfl⟩
set_option maxHeartbeats 1000000 in
theorem indexfunc_1 (bx F : Nat) (A0 : Option Addr) (c0 : Nat) (A : Option Addr) (c : Nat) (ns : List Int) (w : World) (hr : Row1 w A ns.length (ns.map (Value.int .i64))) (hl : ns.length ≤ 1000000000000) (hb : w.cell? ⟨bx, 0, none⟩ = some (.slice A0 F c0)) :
    Calls Try.prog 116 #[.slice A ns.length c, .func (.func 83) #[] #[.pointer (some ⟨bx, 0, none⟩)]] w fun e w' => e = .returned (.int .i64 (fidx (fun n => !inD n (-1) F) ns)) ∧ w = w' := by
  have HC := Lib.hid (fun n => form_1 bx F A0 c0 n w hb)
  have HR := Lib.hid hr
  have HH := Lib.hid (fun k => @fidx_hit (fun n => !inD n (-1) F) ns k)
  have HM := Lib.hid (@fidx_miss (fun n => !inD n (-1) F) ns)
  clear hr
  refine calls_hide fun Q HQ => ?_
  have HQ' := Lib.hid HQ
  clear HQ
  go_enter Try.func116, Try.ntmps116
  go_wp2
  go_loopw [8] (fun k wr => ∃ j : Nat, j ≤ ns.length ∧ k = .int .i64 j ∧ wr = w ∧ ∀ i, i < j → ∀ n, ns[i]? = some n → (fun n => !inD n (-1) F) n = false) (fun k _ => ns.length - (intOf k).toNat)
  case atStart => exact ⟨0, Nat.zero_le _, rfl, rfl, fun i hi => absurd hi (Nat.not_lt_zero i)⟩
  case round =>
    obtain ⟨j, hj, rfl, rfl, hn⟩ := hrel
    have HN := Lib.hid hn
    clear hn
    by_cases hlt : j < ns.length
    · obtain ⟨ad, rfl, hc⟩ := HR.out.at_ (j := j) (u := .int .i64 ns[j]) (by simp [List.getElem?_eq_getElem hlt])
      have HJ := Lib.hid (List.getElem?_eq_getElem hlt)
      have HH2 := Lib.hid (HH.out j hlt)
      generalize ns[j] = n at *
      go_wp2_with fail
      refine (HC.out n).mono ?_
      rintro e w1 ⟨rfl, rfl⟩
      cases hp : inD n (-1) F with
      | true =>
        simp only [hp, Bool.not_true]
        go_wp2
        go_roundw
        case rel => exact ⟨j + 1, by omega, by go_num, by first | rfl | trivial, fun i hi n' hn' => by
          rcases Nat.lt_or_ge i j with h | h
          · exact HN.out i h n' hn'
          · have : i = j := by omega
            subst this
            rw [HJ.out] at hn'
            cases hn'
            simp only [hp, Bool.not_true]⟩
        case measure => simp [intOf]; omega
      | false =>
        have hs := HH2.out HN.out (by simp only [hp, Bool.not_false])
        rw [hs] at HQ'
        simp only [hp, Bool.not_false]
        go_wp2
        exact HQ'.out _ _ ⟨rfl, rfl⟩
    · have hje : j = ns.length := by omega
      subst hje
      have hs := HM.out HN.out
      rw [hs] at HQ'
      go_wp2
      exact HQ'.out _ _ ⟨rfl, rfl⟩
theorem containsfunc_1 (bx F : Nat) (A0 : Option Addr) (c0 : Nat) (A : Option Addr) (c : Nat) (ns : List Int) (w : World) (hr : Row1 w A ns.length (ns.map (Value.int .i64))) (hl : ns.length ≤ 1000000000000) (hb : w.cell? ⟨bx, 0, none⟩ = some (.slice A0 F c0)) :
    Calls Try.prog 82 #[.slice A ns.length c, .func (.func 83) #[] #[.pointer (some ⟨bx, 0, none⟩)]] w fun e w' => e = .returned (.bool (ns.any (fun n => !inD n (-1) F))) ∧ w = w' := by
  have HC := Lib.hid (indexfunc_1 bx F A0 c0 A c ns w hr hl hb)
  rw [← fidx_any]
  clear hr
  refine calls_hide fun Q HQ => ?_
  have HQ' := Lib.hid HQ
  clear HQ
  generalize fidx (fun n => !inD n (-1) F) ns = r at *
  go_enter Try.func82, Try.ntmps82
  go_wp2_with fail
  refine HC.out.mono ?_
  rintro e w1 ⟨rfl, rfl⟩
  go_wp2
  exact HQ'.out _ _ ⟨rfl, rfl⟩

set_option maxHeartbeats 400000 in
theorem form_2  (n : Int) (w : World) : Calls Try.prog 84 #[.int .i64 n] w fun e w' => e = .returned (.bool ((fun n => !inD n 0 3) n)) ∧ w = w' := by
  refine calls_hide fun Q HQ => ?_
  have HQ' := Lib.hid HQ
  clear HQ
  go_enter Try.func84, Try.ntmps84
  go_wp2_with fail
  refine (rec_within n 0 3 w).mono ?_
  rintro e w1 ⟨rfl, rfl⟩
  generalize inD n 0 3 = r at *
  go_wp2
  exact HQ'.out _ _ ⟨rfl, rfl⟩
set_option maxHeartbeats 1000000 in
theorem indexfunc_2  (A : Option Addr) (c : Nat) (ns : List Int) (w : World) (hr : Row1 w A ns.length (ns.map (Value.int .i64))) (hl : ns.length ≤ 1000000000000) :
    Calls Try.prog 116 #[.slice A ns.length c, .func (.func 84) #[] #[]] w fun e w' => e = .returned (.int .i64 (fidx (fun n => !inD n 0 3) ns)) ∧ w = w' := by
  have HC := Lib.hid (fun n => form_2  n w)
  have HR := Lib.hid hr
  have HH := Lib.hid (fun k => @fidx_hit (fun n => !inD n 0 3) ns k)
  have HM := Lib.hid (@fidx_miss (fun n => !inD n 0 3) ns)
  clear hr
  refine calls_hide fun Q HQ => ?_
  have HQ' := Lib.hid HQ
  clear HQ
  go_enter Try.func116, Try.ntmps116
  go_wp2
  go_loopw [8] (fun k wr => ∃ j : Nat, j ≤ ns.length ∧ k = .int .i64 j ∧ wr = w ∧ ∀ i, i < j → ∀ n, ns[i]? = some n → (fun n => !inD n 0 3) n = false) (fun k _ => ns.length - (intOf k).toNat)
  case atStart => exact ⟨0, Nat.zero_le _, rfl, rfl, fun i hi => absurd hi (Nat.not_lt_zero i)⟩
  case round =>
    obtain ⟨j, hj, rfl, rfl, hn⟩ := hrel
    have HN := Lib.hid hn
    clear hn
    by_cases hlt : j < ns.length
    · obtain ⟨ad, rfl, hc⟩ := HR.out.at_ (j := j) (u := .int .i64 ns[j]) (by simp [List.getElem?_eq_getElem hlt])
      have HJ := Lib.hid (List.getElem?_eq_getElem hlt)
      have HH2 := Lib.hid (HH.out j hlt)
      generalize ns[j] = n at *
      go_wp2_with fail
      refine (HC.out n).mono ?_
      rintro e w1 ⟨rfl, rfl⟩
      cases hp : inD n 0 3 with
      | true =>
        simp only [hp, Bool.not_true]
        go_wp2
        go_roundw
        case rel => exact ⟨j + 1, by omega, by go_num, by first | rfl | trivial, fun i hi n' hn' => by
          rcases Nat.lt_or_ge i j with h | h
          · exact HN.out i h n' hn'
          · have : i = j := by omega
            subst this
            rw [HJ.out] at hn'
            cases hn'
            simp only [hp, Bool.not_true]⟩
        case measure => simp [intOf]; omega
      | false =>
        have hs := HH2.out HN.out (by simp only [hp, Bool.not_false])
        rw [hs] at HQ'
        simp only [hp, Bool.not_false]
        go_wp2
        exact HQ'.out _ _ ⟨rfl, rfl⟩
    · have hje : j = ns.length := by omega
      subst hje
      have hs := HM.out HN.out
      rw [hs] at HQ'
      go_wp2
      exact HQ'.out _ _ ⟨rfl, rfl⟩
theorem containsfunc_2  (A : Option Addr) (c : Nat) (ns : List Int) (w : World) (hr : Row1 w A ns.length (ns.map (Value.int .i64))) (hl : ns.length ≤ 1000000000000) :
    Calls Try.prog 82 #[.slice A ns.length c, .func (.func 84) #[] #[]] w fun e w' => e = .returned (.bool (ns.any (fun n => !inD n 0 3))) ∧ w = w' := by
  have HC := Lib.hid (indexfunc_2  A c ns w hr hl)
  rw [← fidx_any]
  clear hr
  refine calls_hide fun Q HQ => ?_
  have HQ' := Lib.hid HQ
  clear HQ
  generalize fidx (fun n => !inD n 0 3) ns = r at *
  go_enter Try.func82, Try.ntmps82
  go_wp2_with fail
  refine HC.out.mono ?_
  rintro e w1 ⟨rfl, rfl⟩
  go_wp2
  exact HQ'.out _ _ ⟨rfl, rfl⟩

end Go.Proofs.Ytphhdmopfmelbaa
