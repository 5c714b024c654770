/- slices.Clone, slices.Index at the types that are met. Written by mk.py. -/
import Derived.Test.YtoeaoeekjabaaaaCell
import Derived.Lib.Hide
namespace Go.Proofs.Ytoeaoeekjabaaaa
open Go.RowKit Go.Proofs.YtoeaoeekjabaaaaW.PrintWords
set_option linter.unusedVariables false
set_option linter.unusedSimpArgs false

theorem cinfo_int : (Try.prog.info? 3).map (fun i => (i.zero, i.size, i.bytes)) = some (some (.int .i64 0), 1, 8) := by kernel_rfl
set_option maxHeartbeats 400000 in
theorem clone_nil_int (w : World) : Calls Try.prog 30 #[.slice none 0 0] w fun e w' => e = .returned (.slice none 0 0) ∧ w = w' := by
  have hn := fun a n c w => Lib.run_eql_slice_nil (P := Try.prog) w 22 3 a n c 0 0 Try.underlying22
  go_enter Try.func30, Try.ntmps30
  go_wp2
  go_ret
  exact ⟨rfl, rfl⟩
set_option maxHeartbeats 400000 in
theorem clone_int (ad : Addr) (n c : Nat) (us : List Value) (w : World) (hr : Row1 w (some ad) n us) (h1 : ∀ u ∈ us, u.oneCell' = true) (hl : n ≤ 1000000000000) :
    Calls Try.prog 30 #[.slice (some ad) n c] w fun e w' => ∃ v, e = .returned v ∧ w'.ownsRow w.heap.size 3 1 v n us ∧ ¬ v = .slice none 0 0 ∧ Below w.heap.size w w' := by
  have hn := fun a n c w => Lib.run_eql_slice_nil (P := Try.prog) w 22 3 a n c 0 0 Try.underlying22
  obtain ⟨i0, hi, hz0, hz1, hz2⟩ := info_parts cinfo_int
  have hlen : us.length = n * 1 := by have := hr.1; omega
  have hbase := World.ownsRow_made (base := w.heap.size) (e := 3) (size := 1) w #[] 0 (Nat.le_refl _) (by decide) rfl
  have hcells : ∀ j u, us[j]? = some u → (w.alloc (.cells #[] 3)).cell? (ad.add j) = some u := fun j u hu => by
    obtain ⟨ad', e, hc⟩ := hr.at_ hu
    cases e
    exact pw_cell_below ((Below.refl w.heap.size w).alloc (Nat.le_refl _) _) hc
  refine calls_hide fun Q HQ => ?_
  have HQ' := Lib.hid HQ
  have HL := Lib.hid hlen
  have HC := Lib.hid hcells
  have H1 := Lib.hid h1
  have HB := Lib.hid hbase
  clear HQ hlen hr hcells h1 hbase
  go_enter Try.func30, Try.ntmps30
  go_wp2_with (at_builtin; refine wpList_append_own _ rfl _ _ 22 rfl w.heap.size 3 i0 (.int .i64 0) 1 8 Try.underlying22 hi hz0 hz1 hz2 rfl (by decide) _ 0 [] rfl HB.out ad n c us rfl HL.out HC.out H1.out (by simp only [maxLen]; omega) (by omega) (by simp) ?_)
  intro v1 w1 hown hg hnil
  have hnn : ¬ v1 = .slice none 0 0 := hnil
  have H2 := Lib.hid (show w1.ownsRow w.heap.size 3 1 v1 n us by simpa using hown)
  have H3 := Lib.hid hnn
  have H4 := Lib.hid (((Below.refl w.heap.size w).alloc (Nat.le_refl _) _).grown hg (by simp) (fun k hk => by simp [Value.ownBlock] at hk; omega))
  clear hown hg hnil hnn HL HC H1 HB
  go_wp2
  exact HQ'.out _ _ ⟨_, rfl, H2.out, H3.out, H4.out⟩

theorem clone_any_int (A : Option Addr) (n c : Nat) (us : List Value) (w : World) (hA : A = none → n = 0 ∧ c = 0) (hr : Row1 w A n us) (h1 : ∀ u ∈ us, u.oneCell' = true) (hl : n ≤ 1000000000000) :
    Calls Try.prog 30 #[.slice A n c] w fun e w' => ∃ A' c', e = .returned (.slice A' n c') ∧ w'.ownsRow w.heap.size 3 1 (.slice A' n c') n us ∧ (A' = none → n = 0 ∧ c' = 0) ∧ (A' = none ↔ A = none) ∧ Below w.heap.size w w' := by
  cases A with
  | none =>
    obtain ⟨rfl, rfl⟩ := hA rfl
    have hus : us = [] := List.eq_nil_of_length_eq_zero hr.1
    subst hus
    refine (clone_nil_int w).mono ?_
    rintro e w' ⟨rfl, rfl⟩
    exact ⟨none, 0, rfl, World.ownsRow_nil _ _ _ _, fun _ => ⟨rfl, rfl⟩, Iff.rfl, Below.refl _ _⟩
  | some ad =>
    refine (clone_int ad n c us w hr h1 hl).mono ?_
    rintro e w' ⟨v, rfl, ho, hn, hb⟩
    obtain ⟨b, c', rest, rfl, _, _, _⟩ := owns_blk ho hn
    exact ⟨_, c', rfl, ho, (fun e => by cases e), (by simp), hb⟩
end Go.Proofs.Ytoeaoeekjabaaaa
