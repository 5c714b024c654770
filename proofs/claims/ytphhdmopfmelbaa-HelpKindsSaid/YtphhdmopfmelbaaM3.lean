/- Joined texts: Sl New NewScx. -/
import Derived.Test.YtphhdmopfmelbaaM2

/- slices.Clone, slices.Index at the types that are met. Written by mk.py. -/
namespace Go.Proofs.Ytphhdmopfmelbaa
open Go.RowKit Go.Proofs.YtphhdmopfmelbaaW.PrintWords
set_option linter.unusedVariables false
set_option linter.unusedSimpArgs false

theorem cinfo_PRecordint : (Try.prog.info? 150).map (fun i => (i.zero, i.size, i.bytes)) = some (some (.pointer none), 1, 8) := by kernel_rfl
set_option maxHeartbeats 400000 in
theorem clone_nil_PRecordint (w : World) : Calls Try.prog 117 #[.slice none 0 0] w fun e w' => e = .returned (.slice none 0 0) ∧ w = w' := by
  have hn := fun a n c w => Lib.run_eql_slice_nil (P := Try.prog) w 82 150 a n c 0 0 Try.underlying82
  go_enter Try.func117, Try.ntmps117
  go_wp2
  go_ret
  exact ⟨rfl, rfl⟩
set_option maxHeartbeats 400000 in
theorem clone_PRecordint (ad : Addr) (n c : Nat) (us : List Value) (w : World) (hr : Row1 w (some ad) n us) (h1 : ∀ u ∈ us, u.oneCell' = true) (hl : n ≤ 1000000000000) :
    Calls Try.prog 117 #[.slice (some ad) n c] w fun e w' => ∃ v, e = .returned v ∧ w'.ownsRow w.heap.size 150 1 v n us ∧ ¬ v = .slice none 0 0 ∧ Below w.heap.size w w' := by
  have hn := fun a n c w => Lib.run_eql_slice_nil (P := Try.prog) w 82 150 a n c 0 0 Try.underlying82
  obtain ⟨i0, hi, hz0, hz1, hz2⟩ := info_parts cinfo_PRecordint
  have hlen : us.length = n * 1 := by have := hr.1; omega
  have hbase := World.ownsRow_made (base := w.heap.size) (e := 150) (size := 1) w #[] 0 (Nat.le_refl _) (by decide) rfl
  have hcells : ∀ j u, us[j]? = some u → (w.alloc (.cells #[] 150)).cell? (ad.add j) = some u := fun j u hu => by
    obtain ⟨ad', e, hc⟩ := hr.at_ hu
    cases e
    exact pw_cell_below ((Below.refl w.heap.size w).alloc (Nat.le_refl _) _) hc
  refine calls_hide fun Q HQ => ?_
  have HQ' := Lib.hid HQ
  have HL := Lib.hid hlen
  have HC := Lib.hid hcells
  have H1 := Lib.hid h1
  have HB := Lib.hid hbase
  clear HQ hlen hr hcells h1 hbase
  go_enter Try.func117, Try.ntmps117
  go_wp2_with (at_builtin; refine wpList_append_own _ rfl _ _ 82 rfl w.heap.size 150 i0 (.pointer none) 1 8 Try.underlying82 hi hz0 hz1 hz2 rfl (by decide) _ 0 [] rfl HB.out ad n c us rfl HL.out HC.out H1.out (by simp only [maxLen]; omega) (by omega) (by simp) ?_)
  intro v1 w1 hown hg hnil
  have hnn : ¬ v1 = .slice none 0 0 := hnil
  have H2 := Lib.hid (show w1.ownsRow w.heap.size 150 1 v1 n us by simpa using hown)
  have H3 := Lib.hid hnn
  have H4 := Lib.hid (((Below.refl w.heap.size w).alloc (Nat.le_refl _) _).grown hg (by simp) (fun k hk => by simp [Value.ownBlock] at hk; omega))
  clear hown hg hnil hnn HL HC H1 HB
  go_wp2
  exact HQ'.out _ _ ⟨_, rfl, H2.out, H3.out, H4.out⟩

theorem cinfo_PRecordL12thing : (Try.prog.info? 103).map (fun i => (i.zero, i.size, i.bytes)) = some (some (.pointer none), 1, 8) := by kernel_rfl
set_option maxHeartbeats 400000 in
theorem clone_nil_PRecordL12thing (w : World) : Calls Try.prog 109 #[.slice none 0 0] w fun e w' => e = .returned (.slice none 0 0) ∧ w = w' := by
  have hn := fun a n c w => Lib.run_eql_slice_nil (P := Try.prog) w 130 103 a n c 0 0 Try.underlying130
  go_enter Try.func109, Try.ntmps109
  go_wp2
  go_ret
  exact ⟨rfl, rfl⟩
set_option maxHeartbeats 400000 in
theorem clone_PRecordL12thing (ad : Addr) (n c : Nat) (us : List Value) (w : World) (hr : Row1 w (some ad) n us) (h1 : ∀ u ∈ us, u.oneCell' = true) (hl : n ≤ 1000000000000) :
    Calls Try.prog 109 #[.slice (some ad) n c] w fun e w' => ∃ v, e = .returned v ∧ w'.ownsRow w.heap.size 103 1 v n us ∧ ¬ v = .slice none 0 0 ∧ Below w.heap.size w w' := by
  have hn := fun a n c w => Lib.run_eql_slice_nil (P := Try.prog) w 130 103 a n c 0 0 Try.underlying130
  obtain ⟨i0, hi, hz0, hz1, hz2⟩ := info_parts cinfo_PRecordL12thing
  have hlen : us.length = n * 1 := by have := hr.1; omega
  have hbase := World.ownsRow_made (base := w.heap.size) (e := 103) (size := 1) w #[] 0 (Nat.le_refl _) (by decide) rfl
  have hcells : ∀ j u, us[j]? = some u → (w.alloc (.cells #[] 103)).cell? (ad.add j) = some u := fun j u hu => by
    obtain ⟨ad', e, hc⟩ := hr.at_ hu
    cases e
    exact pw_cell_below ((Below.refl w.heap.size w).alloc (Nat.le_refl _) _) hc
  refine calls_hide fun Q HQ => ?_
  have HQ' := Lib.hid HQ
  have HL := Lib.hid hlen
  have HC := Lib.hid hcells
  have H1 := Lib.hid h1
  have HB := Lib.hid hbase
  clear HQ hlen hr hcells h1 hbase
  go_enter Try.func109, Try.ntmps109
  go_wp2_with (at_builtin; refine wpList_append_own _ rfl _ _ 130 rfl w.heap.size 103 i0 (.pointer none) 1 8 Try.underlying130 hi hz0 hz1 hz2 rfl (by decide) _ 0 [] rfl HB.out ad n c us rfl HL.out HC.out H1.out (by simp only [maxLen]; omega) (by omega) (by simp) ?_)
  intro v1 w1 hown hg hnil
  have hnn : ¬ v1 = .slice none 0 0 := hnil
  have H2 := Lib.hid (show w1.ownsRow w.heap.size 103 1 v1 n us by simpa using hown)
  have H3 := Lib.hid hnn
  have H4 := Lib.hid (((Below.refl w.heap.size w).alloc (Nat.le_refl _) _).grown hg (by simp) (fun k hk => by simp [Value.ownBlock] at hk; omega))
  clear hown hg hnil hnn HL HC H1 HB
  go_wp2
  exact HQ'.out _ _ ⟨_, rfl, H2.out, H3.out, H4.out⟩

theorem cinfo_PScxint : (Try.prog.info? 81).map (fun i => (i.zero, i.size, i.bytes)) = some (some (.pointer none), 1, 8) := by kernel_rfl
set_option maxHeartbeats 400000 in
theorem clone_nil_PScxint (w : World) : Calls Try.prog 118 #[.slice none 0 0] w fun e w' => e = .returned (.slice none 0 0) ∧ w = w' := by
  have hn := fun a n c w => Lib.run_eql_slice_nil (P := Try.prog) w 83 81 a n c 0 0 Try.underlying83
  go_enter Try.func118, Try.ntmps118
  go_wp2
  go_ret
  exact ⟨rfl, rfl⟩
set_option maxHeartbeats 400000 in
theorem clone_PScxint (ad : Addr) (n c : Nat) (us : List Value) (w : World) (hr : Row1 w (some ad) n us) (h1 : ∀ u ∈ us, u.oneCell' = true) (hl : n ≤ 1000000000000) :
    Calls Try.prog 118 #[.slice (some ad) n c] w fun e w' => ∃ v, e = .returned v ∧ w'.ownsRow w.heap.size 81 1 v n us ∧ ¬ v = .slice none 0 0 ∧ Below w.heap.size w w' := by
  have hn := fun a n c w => Lib.run_eql_slice_nil (P := Try.prog) w 83 81 a n c 0 0 Try.underlying83
  obtain ⟨i0, hi, hz0, hz1, hz2⟩ := info_parts cinfo_PScxint
  have hlen : us.length = n * 1 := by have := hr.1; omega
  have hbase := World.ownsRow_made (base := w.heap.size) (e := 81) (size := 1) w #[] 0 (Nat.le_refl _) (by decide) rfl
  have hcells : ∀ j u, us[j]? = some u → (w.alloc (.cells #[] 81)).cell? (ad.add j) = some u := fun j u hu => by
    obtain ⟨ad', e, hc⟩ := hr.at_ hu
    cases e
    exact pw_cell_below ((Below.refl w.heap.size w).alloc (Nat.le_refl _) _) hc
  refine calls_hide fun Q HQ => ?_
  have HQ' := Lib.hid HQ
  have HL := Lib.hid hlen
  have HC := Lib.hid hcells
  have H1 := Lib.hid h1
  have HB := Lib.hid hbase
  clear HQ hlen hr hcells h1 hbase
  go_enter Try.func118, Try.ntmps118
  go_wp2_with (at_builtin; refine wpList_append_own _ rfl _ _ 83 rfl w.heap.size 81 i0 (.pointer none) 1 8 Try.underlying83 hi hz0 hz1 hz2 rfl (by decide) _ 0 [] rfl HB.out ad n c us rfl HL.out HC.out H1.out (by simp only [maxLen]; omega) (by omega) (by simp) ?_)
  intro v1 w1 hown hg hnil
  have hnn : ¬ v1 = .slice none 0 0 := hnil
  have H2 := Lib.hid (show w1.ownsRow w.heap.size 81 1 v1 n us by simpa using hown)
  have H3 := Lib.hid hnn
  have H4 := Lib.hid (((Below.refl w.heap.size w).alloc (Nat.le_refl _) _).grown hg (by simp) (fun k hk => by simp [Value.ownBlock] at hk; omega))
  clear hown hg hnil hnn HL HC H1 HB
  go_wp2
  exact HQ'.out _ _ ⟨_, rfl, H2.out, H3.out, H4.out⟩

theorem cinfo_PScxL12thing : (Try.prog.info? 109).map (fun i => (i.zero, i.size, i.bytes)) = some (some (.pointer none), 1, 8) := by kernel_rfl
set_option maxHeartbeats 400000 in
theorem clone_nil_PScxL12thing (w : World) : Calls Try.prog 110 #[.slice none 0 0] w fun e w' => e = .returned (.slice none 0 0) ∧ w = w' := by
  have hn := fun a n c w => Lib.run_eql_slice_nil (P := Try.prog) w 131 109 a n c 0 0 Try.underlying131
  go_enter Try.func110, Try.ntmps110
  go_wp2
  go_ret
  exact ⟨rfl, rfl⟩
set_option maxHeartbeats 400000 in
theorem clone_PScxL12thing (ad : Addr) (n c : Nat) (us : List Value) (w : World) (hr : Row1 w (some ad) n us) (h1 : ∀ u ∈ us, u.oneCell' = true) (hl : n ≤ 1000000000000) :
    Calls Try.prog 110 #[.slice (some ad) n c] w fun e w' => ∃ v, e = .returned v ∧ w'.ownsRow w.heap.size 109 1 v n us ∧ ¬ v = .slice none 0 0 ∧ Below w.heap.size w w' := by
  have hn := fun a n c w => Lib.run_eql_slice_nil (P := Try.prog) w 131 109 a n c 0 0 Try.underlying131
  obtain ⟨i0, hi, hz0, hz1, hz2⟩ := info_parts cinfo_PScxL12thing
  have hlen : us.length = n * 1 := by have := hr.1; omega
  have hbase := World.ownsRow_made (base := w.heap.size) (e := 109) (size := 1) w #[] 0 (Nat.le_refl _) (by decide) rfl
  have hcells : ∀ j u, us[j]? = some u → (w.alloc (.cells #[] 109)).cell? (ad.add j) = some u := fun j u hu => by
    obtain ⟨ad', e, hc⟩ := hr.at_ hu
    cases e
    exact pw_cell_below ((Below.refl w.heap.size w).alloc (Nat.le_refl _) _) hc
  refine calls_hide fun Q HQ => ?_
  have HQ' := Lib.hid HQ
  have HL := Lib.hid hlen
  have HC := Lib.hid hcells
  have H1 := Lib.hid h1
  have HB := Lib.hid hbase
  clear HQ hlen hr hcells h1 hbase
  go_enter Try.func110, Try.ntmps110
  go_wp2_with (at_builtin; refine wpList_append_own _ rfl _ _ 131 rfl w.heap.size 109 i0 (.pointer none) 1 8 Try.underlying131 hi hz0 hz1 hz2 rfl (by decide) _ 0 [] rfl HB.out ad n c us rfl HL.out HC.out H1.out (by simp only [maxLen]; omega) (by omega) (by simp) ?_)
  intro v1 w1 hown hg hnil
  have hnn : ¬ v1 = .slice none 0 0 := hnil
  have H2 := Lib.hid (show w1.ownsRow w.heap.size 109 1 v1 n us by simpa using hown)
  have H3 := Lib.hid hnn
  have H4 := Lib.hid (((Below.refl w.heap.size w).alloc (Nat.le_refl _) _).grown hg (by simp) (fun k hk => by simp [Value.ownBlock] at hk; omega))
  clear hown hg hnil hnn HL HC H1 HB
  go_wp2
  exact HQ'.out _ _ ⟨_, rfl, H2.out, H3.out, H4.out⟩

theorem cinfo_bool : (Try.prog.info? 4).map (fun i => (i.zero, i.size, i.bytes)) = some (some (.bool false), 1, 1) := by kernel_rfl
set_option maxHeartbeats 400000 in
theorem clone_nil_bool (w : World) : Calls Try.prog 111 #[.slice none 0 0] w fun e w' => e = .returned (.slice none 0 0) ∧ w = w' := by
  have hn := fun a n c w => Lib.run_eql_slice_nil (P := Try.prog) w 24 4 a n c 0 0 Try.underlying24
  go_enter Try.func111, Try.ntmps111
  go_wp2
  go_ret
  exact ⟨rfl, rfl⟩
set_option maxHeartbeats 400000 in
theorem clone_bool (ad : Addr) (n c : Nat) (us : List Value) (w : World) (hr : Row1 w (some ad) n us) (h1 : ∀ u ∈ us, u.oneCell' = true) (hl : n ≤ 1000000000000) :
    Calls Try.prog 111 #[.slice (some ad) n c] w fun e w' => ∃ v, e = .returned v ∧ w'.ownsRow w.heap.size 4 1 v n us ∧ ¬ v = .slice none 0 0 ∧ Below w.heap.size w w' := by
  have hn := fun a n c w => Lib.run_eql_slice_nil (P := Try.prog) w 24 4 a n c 0 0 Try.underlying24
  obtain ⟨i0, hi, hz0, hz1, hz2⟩ := info_parts cinfo_bool
  have hlen : us.length = n * 1 := by have := hr.1; omega
  have hbase := World.ownsRow_made (base := w.heap.size) (e := 4) (size := 1) w #[] 0 (Nat.le_refl _) (by decide) rfl
  have hcells : ∀ j u, us[j]? = some u → (w.alloc (.cells #[] 4)).cell? (ad.add j) = some u := fun j u hu => by
    obtain ⟨ad', e, hc⟩ := hr.at_ hu
    cases e
    exact pw_cell_below ((Below.refl w.heap.size w).alloc (Nat.le_refl _) _) hc
  refine calls_hide fun Q HQ => ?_
  have HQ' := Lib.hid HQ
  have HL := Lib.hid hlen
  have HC := Lib.hid hcells
  have H1 := Lib.hid h1
  have HB := Lib.hid hbase
  clear HQ hlen hr hcells h1 hbase
  go_enter Try.func111, Try.ntmps111
  go_wp2_with (at_builtin; refine wpList_append_own _ rfl _ _ 24 rfl w.heap.size 4 i0 (.bool false) 1 1 Try.underlying24 hi hz0 hz1 hz2 rfl (by decide) _ 0 [] rfl HB.out ad n c us rfl HL.out HC.out H1.out (by simp only [maxLen]; omega) (by omega) (by simp) ?_)
  intro v1 w1 hown hg hnil
  have hnn : ¬ v1 = .slice none 0 0 := hnil
  have H2 := Lib.hid (show w1.ownsRow w.heap.size 4 1 v1 n us by simpa using hown)
  have H3 := Lib.hid hnn
  have H4 := Lib.hid (((Below.refl w.heap.size w).alloc (Nat.le_refl _) _).grown hg (by simp) (fun k hk => by simp [Value.ownBlock] at hk; omega))
  clear hown hg hnil hnn HL HC H1 HB
  go_wp2
  exact HQ'.out _ _ ⟨_, rfl, H2.out, H3.out, H4.out⟩

theorem cinfo_int : (Try.prog.info? 3).map (fun i => (i.zero, i.size, i.bytes)) = some (some (.int .i64 0), 1, 8) := by kernel_rfl
set_option maxHeartbeats 400000 in
theorem clone_nil_int (w : World) : Calls Try.prog 62 #[.slice none 0 0] w fun e w' => e = .returned (.slice none 0 0) ∧ w = w' := by
  have hn := fun a n c w => Lib.run_eql_slice_nil (P := Try.prog) w 23 3 a n c 0 0 Try.underlying23
  go_enter Try.func62, Try.ntmps62
  go_wp2
  go_ret
  exact ⟨rfl, rfl⟩
set_option maxHeartbeats 400000 in
theorem clone_int (ad : Addr) (n c : Nat) (us : List Value) (w : World) (hr : Row1 w (some ad) n us) (h1 : ∀ u ∈ us, u.oneCell' = true) (hl : n ≤ 1000000000000) :
    Calls Try.prog 62 #[.slice (some ad) n c] w fun e w' => ∃ v, e = .returned v ∧ w'.ownsRow w.heap.size 3 1 v n us ∧ ¬ v = .slice none 0 0 ∧ Below w.heap.size w w' := by
  have hn := fun a n c w => Lib.run_eql_slice_nil (P := Try.prog) w 23 3 a n c 0 0 Try.underlying23
  obtain ⟨i0, hi, hz0, hz1, hz2⟩ := info_parts cinfo_int
  have hlen : us.length = n * 1 := by have := hr.1; omega
  have hbase := World.ownsRow_made (base := w.heap.size) (e := 3) (size := 1) w #[] 0 (Nat.le_refl _) (by decide) rfl
  have hcells : ∀ j u, us[j]? = some u → (w.alloc (.cells #[] 3)).cell? (ad.add j) = some u := fun j u hu => by
    obtain ⟨ad', e, hc⟩ := hr.at_ hu
    cases e
    exact pw_cell_below ((Below.refl w.heap.size w).alloc (Nat.le_refl _) _) hc
  refine calls_hide fun Q HQ => ?_
  have HQ' := Lib.hid HQ
  have HL := Lib.hid hlen
  have HC := Lib.hid hcells
  have H1 := Lib.hid h1
  have HB := Lib.hid hbase
  clear HQ hlen hr hcells h1 hbase
  go_enter Try.func62, Try.ntmps62
  go_wp2_with (at_builtin; refine wpList_append_own _ rfl _ _ 23 rfl w.heap.size 3 i0 (.int .i64 0) 1 8 Try.underlying23 hi hz0 hz1 hz2 rfl (by decide) _ 0 [] rfl HB.out ad n c us rfl HL.out HC.out H1.out (by simp only [maxLen]; omega) (by omega) (by simp) ?_)
  intro v1 w1 hown hg hnil
  have hnn : ¬ v1 = .slice none 0 0 := hnil
  have H2 := Lib.hid (show w1.ownsRow w.heap.size 3 1 v1 n us by simpa using hown)
  have H3 := Lib.hid hnn
  have H4 := Lib.hid (((Below.refl w.heap.size w).alloc (Nat.le_refl _) _).grown hg (by simp) (fun k hk => by simp [Value.ownBlock] at hk; omega))
  clear hown hg hnil hnn HL HC H1 HB
  go_wp2
  exact HQ'.out _ _ ⟨_, rfl, H2.out, H3.out, H4.out⟩

theorem clone_any_PRecordint (A : Option Addr) (n c : Nat) (us : List Value) (w : World) (hA : A = none → n = 0 ∧ c = 0) (hr : Row1 w A n us) (h1 : ∀ u ∈ us, u.oneCell' = true) (hl : n ≤ 1000000000000) :
    Calls Try.prog 117 #[.slice A n c] w fun e w' => ∃ A' c', e = .returned (.slice A' n c') ∧ w'.ownsRow w.heap.size 150 1 (.slice A' n c') n us ∧ (A' = none → n = 0 ∧ c' = 0) ∧ (A' = none ↔ A = none) ∧ Below w.heap.size w w' := by
  cases A with
  | none =>
    obtain ⟨rfl, rfl⟩ := hA rfl
    have hus : us = [] := List.eq_nil_of_length_eq_zero hr.1
    subst hus
    refine (clone_nil_PRecordint w).mono ?_
    rintro e w' ⟨rfl, rfl⟩
    exact ⟨none, 0, rfl, World.ownsRow_nil _ _ _ _, fun _ => ⟨rfl, rfl⟩, Iff.rfl, Below.refl _ _⟩
  | some ad =>
    refine (clone_PRecordint ad n c us w hr h1 hl).mono ?_
    rintro e w' ⟨v, rfl, ho, hn, hb⟩
    obtain ⟨b, c', rest, rfl, _, _, _⟩ := owns_blk ho hn
    exact ⟨_, c', rfl, ho, (fun e => by cases e), (by simp), hb⟩

theorem clone_any_PRecordL12thing (A : Option Addr) (n c : Nat) (us : List Value) (w : World) (hA : A = none → n = 0 ∧ c = 0) (hr : Row1 w A n us) (h1 : ∀ u ∈ us, u.oneCell' = true) (hl : n ≤ 1000000000000) :
    Calls Try.prog 109 #[.slice A n c] w fun e w' => ∃ A' c', e = .returned (.slice A' n c') ∧ w'.ownsRow w.heap.size 103 1 (.slice A' n c') n us ∧ (A' = none → n = 0 ∧ c' = 0) ∧ (A' = none ↔ A = none) ∧ Below w.heap.size w w' := by
  cases A with
  | none =>
    obtain ⟨rfl, rfl⟩ := hA rfl
    have hus : us = [] := List.eq_nil_of_length_eq_zero hr.1
    subst hus
    refine (clone_nil_PRecordL12thing w).mono ?_
    rintro e w' ⟨rfl, rfl⟩
    exact ⟨none, 0, rfl, World.ownsRow_nil _ _ _ _, fun _ => ⟨rfl, rfl⟩, Iff.rfl, Below.refl _ _⟩
  | some ad =>
    refine (clone_PRecordL12thing ad n c us w hr h1 hl).mono ?_
    rintro e w' ⟨v, rfl, ho, hn, hb⟩
    obtain ⟨b, c', rest, rfl, _, _, _⟩ := owns_blk ho hn
    exact ⟨_, c', rfl, ho, (fun e => by cases e), (by simp), hb⟩

theorem clone_any_PScxint (A : Option Addr) (n c : Nat) (us : List Value) (w : World) (hA : A = none → n = 0 ∧ c = 0) (hr : Row1 w A n us) (h1 : ∀ u ∈ us, u.oneCell' = true) (hl : n ≤ 1000000000000) :
    Calls Try.prog 118 #[.slice A n c] w fun e w' => ∃ A' c', e = .returned (.slice A' n c') ∧ w'.ownsRow w.heap.size 81 1 (.slice A' n c') n us ∧ (A' = none → n = 0 ∧ c' = 0) ∧ (A' = none ↔ A = none) ∧ Below w.heap.size w w' := by
  cases A with
  | none =>
    obtain ⟨rfl, rfl⟩ := hA rfl
    have hus : us = [] := List.eq_nil_of_length_eq_zero hr.1
    subst hus
    refine (clone_nil_PScxint w).mono ?_
    rintro e w' ⟨rfl, rfl⟩
    exact ⟨none, 0, rfl, World.ownsRow_nil _ _ _ _, fun _ => ⟨rfl, rfl⟩, Iff.rfl, Below.refl _ _⟩
  | some ad =>
    refine (clone_PScxint ad n c us w hr h1 hl).mono ?_
    rintro e w' ⟨v, rfl, ho, hn, hb⟩
    obtain ⟨b, c', rest, rfl, _, _, _⟩ := owns_blk ho hn
    exact ⟨_, c', rfl, ho, (fun e => by cases e), (by simp), hb⟩

theorem clone_any_PScxL12thing (A : Option Addr) (n c : Nat) (us : List Value) (w : World) (hA : A = none → n = 0 ∧ c = 0) (hr : Row1 w A n us) (h1 : ∀ u ∈ us, u.oneCell' = true) (hl : n ≤ 1000000000000) :
    Calls Try.prog 110 #[.slice A n c] w fun e w' => ∃ A' c', e = .returned (.slice A' n c') ∧ w'.ownsRow w.heap.size 109 1 (.slice A' n c') n us ∧ (A' = none → n = 0 ∧ c' = 0) ∧ (A' = none ↔ A = none) ∧ Below w.heap.size w w' := by
  cases A with
  | none =>
    obtain ⟨rfl, rfl⟩ := hA rfl
    have hus : us = [] := List.eq_nil_of_length_eq_zero hr.1
    subst hus
    refine (clone_nil_PScxL12thing w).mono ?_
    rintro e w' ⟨rfl, rfl⟩
    exact ⟨none, 0, rfl, World.ownsRow_nil _ _ _ _, fun _ => ⟨rfl, rfl⟩, Iff.rfl, Below.refl _ _⟩
  | some ad =>
    refine (clone_PScxL12thing ad n c us w hr h1 hl).mono ?_
    rintro e w' ⟨v, rfl, ho, hn, hb⟩
    obtain ⟨b, c', rest, rfl, _, _, _⟩ := owns_blk ho hn
    exact ⟨_, c', rfl, ho, (fun e => by cases e), (by simp), hb⟩

theorem clone_any_bool (A : Option Addr) (n c : Nat) (us : List Value) (w : World) (hA : A = none → n = 0 ∧ c = 0) (hr : Row1 w A n us) (h1 : ∀ u ∈ us, u.oneCell' = true) (hl : n ≤ 1000000000000) :
    Calls Try.prog 111 #[.slice A n c] w fun e w' => ∃ A' c', e = .returned (.slice A' n c') ∧ w'.ownsRow w.heap.size 4 1 (.slice A' n c') n us ∧ (A' = none → n = 0 ∧ c' = 0) ∧ (A' = none ↔ A = none) ∧ Below w.heap.size w w' := by
  cases A with
  | none =>
    obtain ⟨rfl, rfl⟩ := hA rfl
    have hus : us = [] := List.eq_nil_of_length_eq_zero hr.1
    subst hus
    refine (clone_nil_bool w).mono ?_
    rintro e w' ⟨rfl, rfl⟩
    exact ⟨none, 0, rfl, World.ownsRow_nil _ _ _ _, fun _ => ⟨rfl, rfl⟩, Iff.rfl, Below.refl _ _⟩
  | some ad =>
    refine (clone_bool ad n c us w hr h1 hl).mono ?_
    rintro e w' ⟨v, rfl, ho, hn, hb⟩
    obtain ⟨b, c', rest, rfl, _, _, _⟩ := owns_blk ho hn
    exact ⟨_, c', rfl, ho, (fun e => by cases e), (by simp), hb⟩

theorem clone_any_int (A : Option Addr) (n c : Nat) (us : List Value) (w : World) (hA : A = none → n = 0 ∧ c = 0) (hr : Row1 w A n us) (h1 : ∀ u ∈ us, u.oneCell' = true) (hl : n ≤ 1000000000000) :
    Calls Try.prog 62 #[.slice A n c] w fun e w' => ∃ A' c', e = .returned (.slice A' n c') ∧ w'.ownsRow w.heap.size 3 1 (.slice A' n c') n us ∧ (A' = none → n = 0 ∧ c' = 0) ∧ (A' = none ↔ A = none) ∧ Below w.heap.size w w' := by
  cases A with
  | none =>
    obtain ⟨rfl, rfl⟩ := hA rfl
    have hus : us = [] := List.eq_nil_of_length_eq_zero hr.1
    subst hus
    refine (clone_nil_int w).mono ?_
    rintro e w' ⟨rfl, rfl⟩
    exact ⟨none, 0, rfl, World.ownsRow_nil _ _ _ _, fun _ => ⟨rfl, rfl⟩, Iff.rfl, Below.refl _ _⟩
  | some ad =>
    refine (clone_int ad n c us w hr h1 hl).mono ?_
    rintro e w' ⟨v, rfl, ho, hn, hb⟩
    obtain ⟨b, c', rest, rfl, _, _, _⟩ := owns_blk ho hn
    exact ⟨_, c', rfl, ho, (fun e => by cases e), (by simp), hb⟩
end Go.Proofs.Ytphhdmopfmelbaa

/- record.New. Written by mk.py. -/
namespace Go.Proofs.Ytphhdmopfmelbaa
open Go.RowKit Go.Proofs.YtphhdmopfmelbaaW.PrintWords
set_option linter.unusedVariables false
set_option linter.unusedSimpArgs false

/-- The SCX-record that a new record has of its own: Aborted. -/
def firstO : ScxO := ⟨.slice none 0 0, .slice none 0 0, .slice none 0 0, 0, 0, none, none, 2, false⟩
/-- Half-way through the fields. -/
def NewInv (TR TC : Nat) (w : World) (fb b : Nat) (ps : List (Option Nat)) (D : List Value) (j : Nat) (wr : World) : Prop :=
  Below w.heap.size w wr ∧ b < wr.heap.size ∧ Blk wr fb TC ((ps.take j).map pv ++ List.replicate (ps.length - j) (.pointer none)) ∧ Blk wr b TR (D ++ [.slice (some ⟨fb, 0, none⟩) ps.length ps.length, .pointer none, .int .u32 0])
theorem NewInv.next {TR TC : Nat} {w wr w' : World} {fb b : Nat} {ps : List (Option Nat)} {D : List Value} {j : Nat} (h : NewInv TR TC w fb b ps D j wr) (hj : j < ps.length) (hfb : w.heap.size ≤ fb) (hne : TR ≠ TC)
    (hf : Fr wr w' (fun k => k = fb)) (hb : Blk w' fb TC (((ps.take j).map pv ++ List.replicate (ps.length - j) (Value.pointer none)).set j (pv (ps.getD j none)))) : NewInv TR TC w fb b ps D (j + 1) w' := by
  obtain ⟨h1, h2, h3, h4⟩ := h
  refine ⟨h1.trans (hf.below h1.size (fun k hk => by omega)), Nat.lt_of_lt_of_le h2 hf.size, ?_, hf.blk h4 (fun e => ?_)⟩
  · have he : ((ps.take j).map pv ++ List.replicate (ps.length - j) (Value.pointer none)).set j (pv (ps.getD j none)) = (ps.take (j + 1)).map pv ++ List.replicate (ps.length - (j + 1)) (.pointer none) := by
      rw [List.set_append_right _ _ (by simp; omega)]
      have e1 : ps.length - j = (ps.length - (j + 1)) + 1 := by omega
      have e2 : j - ((ps.take j).map pv).length = 0 := by simp; omega
      rw [e1, e2, List.replicate_succ, List.set_cons_zero, List.take_succ_eq_append_getElem hj, List.map_append, List.append_assoc]
      simp [List.getD_eq_getElem?_getD, List.getElem?_eq_getElem hj]
    rw [← he]; exact hb
  · subst e
    exact hne (h4.inj h3).1
theorem NewInv.start {TR TC : Nat} (w : World) (ps : List (Option Nat)) (D : List Value) : NewInv TR TC w w.heap.size (w.heap.size + 1) ps D 0
    ((w.alloc (.cells (nils ps.length) TC)).alloc (.cells (D ++ [Value.slice (some ⟨w.heap.size, 0, none⟩) ps.length ps.length, Value.pointer none, Value.int .u32 0]).toArray TR)) := by
  refine ⟨((Below.refl w.heap.size w).alloc (Nat.le_refl _) _).alloc (by simp) _, by simp, ?_, ?_⟩
  · have := (nils_blk w TC ps.length).alloc (.cells (D ++ [Value.slice (some ⟨w.heap.size, 0, none⟩) ps.length ps.length, Value.pointer none, Value.int .u32 0]).toArray TR)
    simpa using this
  · have := Blk.new (w.alloc (.cells (nils ps.length) TC)) TR (D ++ [Value.slice (some ⟨w.heap.size, 0, none⟩) ps.length ps.length, Value.pointer none, Value.int .u32 0])
    simpa using this
theorem NewInv.drew {TR TC : Nat} {w wr : World} {fb b : Nat} {ps : List (Option Nat)} {D : List Value} {j : Nat} (h : NewInv TR TC w fb b ps D j wr) : NewInv TR TC w fb b ps D j wr.drew := ⟨h.1.drew, h.2.1, h.2.2.1, h.2.2.2⟩
theorem NewInv.of {TR TC : Nat} {w w0 wr : World} {fb b : Nat} {ps : List (Option Nat)} {D : List Value} {j : Nat} (h0 : Below w.heap.size w w0) (h : NewInv TR TC w0 fb b ps D j wr) : NewInv TR TC w fb b ps D j wr :=
  ⟨h0.trans (h.1.mono h0.size), h.2⟩
/-- All of it: the new record, and its first SCX-record. -/
theorem NewInv.done {TR dl TC TX : Nat} {w wr w2 w3 : World} {R : Nat → Option RecO} {X : Nat → Option ScxO} {fb b : Nat} {ps : List (Option Nat)} {D : List Value} (hh : Rep TR dl TC TX w R X) (h : NewInv TR TC w fb b ps D ps.length wr)
    (hk : ∀ p ∈ ps, Ok R p) (hD : D.length = dl) (hb0 : w.heap.size ≤ b) (hfb0 : w.heap.size ≤ fb) (hrx : TR ≠ TX) (hcx : TC ≠ TX) (hrc : TR ≠ TC)
    {zs : Array Value} (hf2 : Fr (wr.alloc (.cells zs TX)) w2 (fun k => k = wr.heap.size)) (hx2 : Blk w2 wr.heap.size TX firstO.cells)
    (hf3 : Fr w2 w3 (fun k => k = b)) (hb3 : Blk w3 b TR (D ++ [.slice (some ⟨fb, 0, none⟩) ps.length ps.length, pv (some wr.heap.size), .int .u32 0])) :
    w.heap.size ≤ wr.heap.size ∧ Below w.heap.size w w3 ∧ Rep TR dl TC TX w3 (upd R b ⟨D, fb, ps, some wr.heap.size, false⟩) (upd X wr.heap.size firstO) := by
  obtain ⟨h1, h2, h3, h4⟩ := h
  have hbel2 : Below w.heap.size w w2 := (h1.alloc h1.size _).trans (hf2.below (Nat.le_trans h1.size (by simp)) (fun k hk => by have := h1.size; omega))
  have hbel3 : Below w.heap.size w w3 := hbel2.trans (hf3.below hbel2.size (fun k hk => by omega))
  refine ⟨h1.size, hbel3, hh.addRec (fb := fb) (o := ⟨D, fb, ps, some wr.heap.size, false⟩) hbel3 hb0 hfb0 hb3 hD ?_ (fun x hx => hk _ hx x rfl) rfl h1.size ?_⟩
  · have e1 : Blk wr fb TC (ps.map pv) := by simpa using h3
    have e2 : Blk w2 fb TC (ps.map pv) := hf2.blk (e1.alloc _) (fun e => by have := e1.lt; omega)
    exact hf3.blk e2 (fun e => by subst e; exact hrc (h4.inj e1).1)
  · exact hf3.blk hx2 (fun e => by omega)

theorem ninfo_int : (Try.prog.info? 170).map (fun i => (i.zero, i.size, i.bytes)) = some (some (.agg #[.pointer none]), 1, 8) := by kernel_rfl
set_option maxHeartbeats 1000000 in
set_option maxRecDepth 100000 in
theorem new_int (d : Int) (A : Option Addr) (c : Nat) (ps : List (Option Nat)) (R : Nat → Option RecO) (X : Nat → Option ScxO) (w : World) (h : Repint w R X) (hr : Row1 w A ps.length (ps.map pv)) (hk : ∀ p ∈ ps, Ok R p) (hn : ps.length ≤ 1000000) :
    Calls Try.prog 78 #[.int .i64 d, .slice A ps.length c] w fun e w' => ∃ b fb xb, e = .returned (pv (some b)) ∧ w.heap.size ≤ b ∧ w.heap.size ≤ fb ∧ w.heap.size ≤ xb ∧ Below w.heap.size w w' ∧
      Repint w' (upd R b ⟨[.int .i64 d], fb, ps, some xb, false⟩) (upd X xb firstO) := by
  have hmk := fun w => run_make_nils (P := Try.prog) Try.underlying171 ninfo_int rfl ps.length (by omega) (by omega) w
  refine calls_hide fun Q HQ => ?_
  have HQ' := Lib.hid HQ
  have HK := Lib.hid hk
  have HR := Lib.hid hr
  have HH := Lib.hid h
  clear HQ hk hr h
  go_enter Try.func78, Try.ntmps78
  go_wp2
  have hst := NewInv.start (TR := 178) (TC := 170) w ps [.int .i64 d]
  go_loopw [17] (fun k wr => ∃ j : Nat, j ≤ ps.length ∧ k = .int .i64 j ∧ NewInv 178 170 w w.heap.size (w.heap.size + 1) ps [.int .i64 d] j wr) (fun k _ => ps.length - (intOf k).toNat)
  case atStart => first | exact ⟨0, Nat.zero_le _, rfl, hst⟩ | exact ⟨0, Nat.zero_le _, rfl, by simpa using hst⟩
  case round =>
    clear hst
    obtain ⟨j, hj, rfl, hI⟩ := hrel
    have HI := Lib.hid hI
    have hbel := hI.1
    have hsz := hI.2.1
    clear hI
    by_cases hlt : j < ps.length
    · have hx0 : (ps.map pv)[j]? = some (pv (ps.getD j none)) := by simp [List.getD_eq_getElem?_getD, List.getElem?_eq_getElem hlt]
      obtain ⟨ad, hA, hc0⟩ := HR.out.at_ hx0
      have hc : wr.cell? (ad.add j) = some (pv (ps.getD j none)) := pw_cell_below hbel hc0
      have hsl : wr.cell? ⟨(w.heap.size + 1), 1, none⟩ = some (.slice (some ⟨w.heap.size, 0, none⟩) ps.length ps.length) := by rw [HI.out.2.2.2.cell]; rfl
      have hp : PtrTo 178 4 wr (ps.getD j none) := (HH.out.below hbel).recPtr (HK.out _ (by simp [List.getD_eq_getElem?_getD, List.getElem?_eq_getElem hlt]))
      have hu : ((ps.take j).map pv ++ List.replicate (ps.length - j) (Value.pointer none))[j]? = some (.pointer none) := by
        rw [List.getElem?_append_right (by simp; omega), List.getElem?_replicate, if_pos (by simp; omega)]
      have HC := Lib.hid (cell_store_Recordint 0 none [] w.heap.size j 170 _ wr (GAt.nil _ _ _ _ _) (Nat.zero_le _) (by simp) HI.out.2.2.1 (by decide) (by decide) (ps.getD j none) _ hu hp)
      have HN := Lib.hid (fun w' hf hb => HI.out.next (w' := w') hlt (by omega) (by decide) hf hb)
      generalize ps.getD j none = p at *
      clear hbel hx0 hc0 hp hu HR HH HI HK
      subst hA
      go_wp2_with fail
      refine HC.out.mono ?_
      rintro e w1 ⟨rfl, H, hb⟩
      have HN1 := Lib.hid (HN.out w1 H.fr0 hb)
      clear H hb HN HC hc
      go_wp2
      go_roundw
      case rel => exact ⟨j + 1, by omega, by go_num, HN1.out⟩
      case measure => simp [intOf]; omega
    · obtain rfl : j = ps.length := by omega
      have HB := HI.out.2.2.2
      have HC := Lib.hid (num_store 0 none [] wr.heap.size 7 152 [.slice none 0 0, .slice none 0 0, .slice none 0 0, .int .i64 0, .int .i64 0, .pointer none, .pointer none, .int .i64 0, .int .u32 0] (wr.alloc (.cells #[.slice none 0 0, .slice none 0 0, .slice none 0 0, .int .i64 0, .int .i64 0, .pointer none, .pointer none, .int .i64 0, .int .u32 0] 152)) (GAt.nil _ _ _ _ _) (Nat.zero_le _) (by simp) (Blk.new wr _ _) (by decide) (by decide) 2 (by decide) (by decide) (.int .i64 0) rfl)
      have HB1 := Lib.hid HB
      have HR0 := Lib.hid hbel.size
      clear HB hbel
      go_wp2_with fail
      refine HC.out.mono ?_
      rintro e w2 ⟨rfl, H, hb⟩
      have hf2 := Lib.hid H.fr0
      have hx2 := Lib.hid (show Blk w2 wr.heap.size 152 firstO.cells from hb)
      have hr2 := Lib.hid (H.fr0.blk (HB1.out.alloc _) (fun e => by omega))
      have HC2 := Lib.hid (cell_store_Scxint 0 none [] (w.heap.size + 1) 2 178 _ w2 (GAt.nil _ _ _ _ _) (Nat.zero_le _) (by simp) hr2.out (by decide) (by decide) (some wr.heap.size) (.pointer none) rfl (hx2.out.ptr))
      clear H hb HC HB1 hr2
      go_wp2_with fail
      refine HC2.out.mono ?_
      rintro e w3 ⟨rfl, H, hb⟩
      have HD := Lib.hid (HI.out.done HH.out HK.out rfl (by omega) (by omega) (by decide) (by decide) (by decide) hf2.out hx2.out H.fr0 hb)
      clear H hb HC2 hx2 hf2
      go_wp2
      exact HQ'.out _ _ ⟨_, _, _, rfl, by omega, by omega, HD.out.1, HD.out.2.1, HD.out.2.2⟩

theorem ninfo_L12thing : (Try.prog.info? 191).map (fun i => (i.zero, i.size, i.bytes)) = some (some (.agg #[.pointer none]), 1, 8) := by kernel_rfl
set_option maxHeartbeats 1000000 in
set_option maxRecDepth 100000 in
theorem new_L12thing (d : Int) (s : ByteArray) (A : Option Addr) (c : Nat) (ps : List (Option Nat)) (R : Nat → Option RecO) (X : Nat → Option ScxO) (w : World) (h : RepL12thing w R X) (hr : Row1 w A ps.length (ps.map pv)) (hk : ∀ p ∈ ps, Ok R p) (hn : ps.length ≤ 1000000) :
    Calls Try.prog 48 #[.agg #[.int .i64 d, .string s], .slice A ps.length c] w fun e w' => ∃ b fb xb, e = .returned (pv (some b)) ∧ w.heap.size ≤ b ∧ w.heap.size ≤ fb ∧ w.heap.size ≤ xb ∧ Below w.heap.size w w' ∧
      RepL12thing w' (upd R b ⟨[.int .i64 d, .string s], fb, ps, some xb, false⟩) (upd X xb firstO) := by
  have hmk := fun w => run_make_nils (P := Try.prog) Try.underlying108 ninfo_L12thing rfl ps.length (by omega) (by omega) w
  refine calls_hide fun Q HQ => ?_
  have HQ' := Lib.hid HQ
  have HK := Lib.hid hk
  have HR := Lib.hid hr
  have HH := Lib.hid h
  clear HQ hk hr h
  go_enter Try.func48, Try.ntmps48
  go_wp2
  go_region
  go_wp2
  have hst := ((NewInv.start (TR := 124) (TC := 191) (w.alloc (.cells ([.int .i64 d, .string s] : List Value).toArray 106)) ps [.int .i64 d, .string s]).of ((Below.refl w.heap.size w).alloc (Nat.le_refl _) _)).drew
  go_loopw [17] (fun k wr => ∃ j : Nat, j ≤ ps.length ∧ k = .int .i64 j ∧ NewInv 124 191 w (w.heap.size + 1) (w.heap.size + 2) ps [.int .i64 d, .string s] j wr) (fun k _ => ps.length - (intOf k).toNat)
  case atStart => first | exact ⟨0, Nat.zero_le _, rfl, hst⟩ | exact ⟨0, Nat.zero_le _, rfl, by simpa using hst⟩
  case round =>
    clear hst
    obtain ⟨j, hj, rfl, hI⟩ := hrel
    have HI := Lib.hid hI
    have hbel := hI.1
    have hsz := hI.2.1
    clear hI
    by_cases hlt : j < ps.length
    · have hx0 : (ps.map pv)[j]? = some (pv (ps.getD j none)) := by simp [List.getD_eq_getElem?_getD, List.getElem?_eq_getElem hlt]
      obtain ⟨ad, hA, hc0⟩ := HR.out.at_ hx0
      have hc : wr.cell? (ad.add j) = some (pv (ps.getD j none)) := pw_cell_below hbel hc0
      have hsl : wr.cell? ⟨(w.heap.size + 2), 2, none⟩ = some (.slice (some ⟨(w.heap.size + 1), 0, none⟩) ps.length ps.length) := by rw [HI.out.2.2.2.cell]; rfl
      have hp : PtrTo 124 5 wr (ps.getD j none) := (HH.out.below hbel).recPtr (HK.out _ (by simp [List.getD_eq_getElem?_getD, List.getElem?_eq_getElem hlt]))
      have hu : ((ps.take j).map pv ++ List.replicate (ps.length - j) (Value.pointer none))[j]? = some (.pointer none) := by
        rw [List.getElem?_append_right (by simp; omega), List.getElem?_replicate, if_pos (by simp; omega)]
      have HC := Lib.hid (cell_store_RecordL12thing 0 none [] (w.heap.size + 1) j 191 _ wr (GAt.nil _ _ _ _ _) (Nat.zero_le _) (by simp) HI.out.2.2.1 (by decide) (by decide) (ps.getD j none) _ hu hp)
      have HN := Lib.hid (fun w' hf hb => HI.out.next (w' := w') hlt (by omega) (by decide) hf hb)
      generalize ps.getD j none = p at *
      clear hbel hx0 hc0 hp hu HR HH HI HK
      subst hA
      go_wp2_with fail
      refine HC.out.mono ?_
      rintro e w1 ⟨rfl, H, hb⟩
      have HN1 := Lib.hid (HN.out w1 H.fr0 hb)
      clear H hb HN HC hc
      go_wp2
      go_roundw
      case rel => exact ⟨j + 1, by omega, by go_num, HN1.out⟩
      case measure => simp [intOf]; omega
    · obtain rfl : j = ps.length := by omega
      have HB := HI.out.2.2.2
      have HC := Lib.hid (num_store 0 none [] wr.heap.size 7 141 [.slice none 0 0, .slice none 0 0, .slice none 0 0, .int .i64 0, .int .i64 0, .pointer none, .pointer none, .int .i64 0, .int .u32 0] (wr.alloc (.cells #[.slice none 0 0, .slice none 0 0, .slice none 0 0, .int .i64 0, .int .i64 0, .pointer none, .pointer none, .int .i64 0, .int .u32 0] 141)) (GAt.nil _ _ _ _ _) (Nat.zero_le _) (by simp) (Blk.new wr _ _) (by decide) (by decide) 2 (by decide) (by decide) (.int .i64 0) rfl)
      have HB1 := Lib.hid HB
      have HR0 := Lib.hid hbel.size
      clear HB hbel
      go_wp2_with fail
      refine HC.out.mono ?_
      rintro e w2 ⟨rfl, H, hb⟩
      have hf2 := Lib.hid H.fr0
      have hx2 := Lib.hid (show Blk w2 wr.heap.size 141 firstO.cells from hb)
      have hr2 := Lib.hid (H.fr0.blk (HB1.out.alloc _) (fun e => by omega))
      have HC2 := Lib.hid (cell_store_ScxL12thing 0 none [] (w.heap.size + 2) 3 124 _ w2 (GAt.nil _ _ _ _ _) (Nat.zero_le _) (by simp) hr2.out (by decide) (by decide) (some wr.heap.size) (.pointer none) rfl (hx2.out.ptr))
      clear H hb HC HB1 hr2
      go_wp2_with fail
      refine HC2.out.mono ?_
      rintro e w3 ⟨rfl, H, hb⟩
      have HD := Lib.hid (HI.out.done HH.out HK.out rfl (by omega) (by omega) (by decide) (by decide) (by decide) hf2.out hx2.out H.fr0 hb)
      clear H hb HC2 hx2 hf2
      go_wp2
      exact HQ'.out _ _ ⟨_, _, _, rfl, by omega, by omega, HD.out.1, HD.out.2.1, HD.out.2.2⟩
end Go.Proofs.Ytphhdmopfmelbaa

/- record.NewScx. Written by mk.py. -/
namespace Go.Proofs.Ytphhdmopfmelbaa
open Go.RowKit Go.Proofs.YtphhdmopfmelbaaW.PrintWords
set_option linter.unusedVariables false
set_option linter.unusedSimpArgs false

set_option maxHeartbeats 1000000 in
theorem newscx_int (A1 : Option Addr) (n1 c1 : Nat) (us1 : List Value) (A2 : Option Addr) (n2 c2 : Nat) (us2 : List Value) (A3 : Option Addr) (n3 c3 : Nat) (us3 : List Value) (at_ fld : Int) (old new : Option Nat)
    (R : Nat → Option RecO) (X : Nat → Option ScxO) (w : World) (h : Repint w R X) (hr1 : Row1 w A1 n1 us1) (hr2 : Row1 w A2 n2 us2) (hr3 : Row1 w A3 n3 us3)
    (hA1 : A1 = none → n1 = 0 ∧ c1 = 0) (hA2 : A2 = none → n2 = 0 ∧ c2 = 0) (hA3 : A3 = none → n3 = 0 ∧ c3 = 0)
    (o1 : ∀ u ∈ us1, u.oneCell' = true) (o2 : ∀ u ∈ us2, u.oneCell' = true) (o3 : ∀ u ∈ us3, u.oneCell' = true) (l1 : n1 ≤ 1000000000000) (l2 : n2 ≤ 1000000000000) (l3 : n3 ≤ 1000000000000) :
    Calls Try.prog 85 #[.slice A1 n1 c1, .slice A2 n2 c2, .slice A3 n3 c3, .int .i64 at_, .int .i64 fld, pv old, pv new] w fun e w' => ∃ b v1 v2 v3, e = .returned (pv (some b)) ∧ w.heap.size ≤ b ∧ Below w.heap.size w w' ∧
      Repint w' R (upd X b ⟨v1, v2, v3, at_, fld, old, new, 0, false⟩) ∧ w'.ownsRow w.heap.size 150 1 v1 n1 us1 ∧ w'.ownsRow w.heap.size 81 1 v2 n2 us2 ∧ w'.ownsRow w.heap.size 4 1 v3 n3 us3 := by
  refine calls_hide fun Q HQ => ?_
  have HQ' := Lib.hid HQ
  have HC1 := Lib.hid (clone_any_PRecordint A1 n1 c1 us1 w hA1 hr1 o1 l1)
  have HC2 := Lib.hid (fun w hr2 => clone_any_PScxint A2 n2 c2 us2 w hA2 hr2 o2 l2)
  have HC3 := Lib.hid (fun w hr3 => clone_any_bool A3 n3 c3 us3 w hA3 hr3 o3 l3)
  have HR2 := Lib.hid hr2
  have HR3 := Lib.hid hr3
  have HH := Lib.hid h
  clear HQ h hr1 hr2 hr3 hA1 hA2 hA3 o1 o2 o3 l1 l2 l3
  go_enter Try.func85, Try.ntmps85
  go_wp2_with fail
  refine HC1.out.mono ?_
  rintro e w1 ⟨A1', c1', rfl, q1, _, _, b1⟩
  have Q1 := Lib.hid q1
  have B1 := Lib.hid b1
  have D2 := Lib.hid (HC2.out w1 (HR2.out.below b1))
  clear q1 b1 HC1 HC2
  go_wp2_with fail
  refine D2.out.mono ?_
  rintro e w2 ⟨A2', c2', rfl, q2, _, _, b2⟩
  have Q2 := Lib.hid q2
  have B2 := Lib.hid (B1.out.trans (b2.mono B1.out.size))
  have B12 := Lib.hid b2
  have D3 := Lib.hid (HC3.out w2 ((HR3.out.below B1.out).below b2))
  clear q2 b2 HC3 D2
  go_wp2_with fail
  refine D3.out.mono ?_
  rintro e w3 ⟨A3', c3', rfl, q3, _, _, b3⟩
  have B3 := Lib.hid (B2.out.trans (b3.mono B2.out.size))
  have hk : ∀ (o : Obj) (k : Nat), k < w3.heap.size → (w3.alloc o).heap[k]? = w3.heap[k]? := fun o k hk => Below.heap_alloc _ _ _ hk
  have Q3 := Lib.hid (World.ownsRow.alloc (own_weaken q3 B2.out.size))
  have Q2' := Lib.hid (World.ownsRow.alloc (own_weaken (pw_own_below Q2.out b3) B1.out.size))
  have Q1' := Lib.hid (World.ownsRow.alloc (pw_own_below (pw_own_below Q1.out B12.out) b3))
  have HN := Lib.hid (Blk.new w3 152 (ScxO.cells ⟨.slice A1' n1 c1', .slice A2' n2 c2', .slice A3' n3 c3', at_, fld, old, new, 0, false⟩))
  have HB := Lib.hid (B3.out.alloc B3.out.size (.cells (ScxO.cells ⟨.slice A1' n1 c1', .slice A2' n2 c2', .slice A3' n3 c3', at_, fld, old, new, 0, false⟩).toArray 152))
  have HS := Lib.hid B3.out.size
  clear q3 b3 hk D3 Q1 Q2
  go_wp2
  exact HQ'.out _ _ ⟨_, _, _, _, rfl, HS.out, HB.out, HH.out.addScx HB.out HN.out, Q1'.out _, Q2'.out _, Q3.out _⟩

set_option maxHeartbeats 1000000 in
theorem newscx_L12thing (A1 : Option Addr) (n1 c1 : Nat) (us1 : List Value) (A2 : Option Addr) (n2 c2 : Nat) (us2 : List Value) (A3 : Option Addr) (n3 c3 : Nat) (us3 : List Value) (at_ fld : Int) (old new : Option Nat)
    (R : Nat → Option RecO) (X : Nat → Option ScxO) (w : World) (h : RepL12thing w R X) (hr1 : Row1 w A1 n1 us1) (hr2 : Row1 w A2 n2 us2) (hr3 : Row1 w A3 n3 us3)
    (hA1 : A1 = none → n1 = 0 ∧ c1 = 0) (hA2 : A2 = none → n2 = 0 ∧ c2 = 0) (hA3 : A3 = none → n3 = 0 ∧ c3 = 0)
    (o1 : ∀ u ∈ us1, u.oneCell' = true) (o2 : ∀ u ∈ us2, u.oneCell' = true) (o3 : ∀ u ∈ us3, u.oneCell' = true) (l1 : n1 ≤ 1000000000000) (l2 : n2 ≤ 1000000000000) (l3 : n3 ≤ 1000000000000) :
    Calls Try.prog 56 #[.slice A1 n1 c1, .slice A2 n2 c2, .slice A3 n3 c3, .int .i64 at_, .int .i64 fld, pv old, pv new] w fun e w' => ∃ b v1 v2 v3, e = .returned (pv (some b)) ∧ w.heap.size ≤ b ∧ Below w.heap.size w w' ∧
      RepL12thing w' R (upd X b ⟨v1, v2, v3, at_, fld, old, new, 0, false⟩) ∧ w'.ownsRow w.heap.size 103 1 v1 n1 us1 ∧ w'.ownsRow w.heap.size 109 1 v2 n2 us2 ∧ w'.ownsRow w.heap.size 4 1 v3 n3 us3 := by
  refine calls_hide fun Q HQ => ?_
  have HQ' := Lib.hid HQ
  have HC1 := Lib.hid (clone_any_PRecordL12thing A1 n1 c1 us1 w hA1 hr1 o1 l1)
  have HC2 := Lib.hid (fun w hr2 => clone_any_PScxL12thing A2 n2 c2 us2 w hA2 hr2 o2 l2)
  have HC3 := Lib.hid (fun w hr3 => clone_any_bool A3 n3 c3 us3 w hA3 hr3 o3 l3)
  have HR2 := Lib.hid hr2
  have HR3 := Lib.hid hr3
  have HH := Lib.hid h
  clear HQ h hr1 hr2 hr3 hA1 hA2 hA3 o1 o2 o3 l1 l2 l3
  go_enter Try.func56, Try.ntmps56
  go_wp2_with fail
  refine HC1.out.mono ?_
  rintro e w1 ⟨A1', c1', rfl, q1, _, _, b1⟩
  have Q1 := Lib.hid q1
  have B1 := Lib.hid b1
  have D2 := Lib.hid (HC2.out w1 (HR2.out.below b1))
  clear q1 b1 HC1 HC2
  go_wp2_with fail
  refine D2.out.mono ?_
  rintro e w2 ⟨A2', c2', rfl, q2, _, _, b2⟩
  have Q2 := Lib.hid q2
  have B2 := Lib.hid (B1.out.trans (b2.mono B1.out.size))
  have B12 := Lib.hid b2
  have D3 := Lib.hid (HC3.out w2 ((HR3.out.below B1.out).below b2))
  clear q2 b2 HC3 D2
  go_wp2_with fail
  refine D3.out.mono ?_
  rintro e w3 ⟨A3', c3', rfl, q3, _, _, b3⟩
  have B3 := Lib.hid (B2.out.trans (b3.mono B2.out.size))
  have hk : ∀ (o : Obj) (k : Nat), k < w3.heap.size → (w3.alloc o).heap[k]? = w3.heap[k]? := fun o k hk => Below.heap_alloc _ _ _ hk
  have Q3 := Lib.hid (World.ownsRow.alloc (own_weaken q3 B2.out.size))
  have Q2' := Lib.hid (World.ownsRow.alloc (own_weaken (pw_own_below Q2.out b3) B1.out.size))
  have Q1' := Lib.hid (World.ownsRow.alloc (pw_own_below (pw_own_below Q1.out B12.out) b3))
  have HN := Lib.hid (Blk.new w3 141 (ScxO.cells ⟨.slice A1' n1 c1', .slice A2' n2 c2', .slice A3' n3 c3', at_, fld, old, new, 0, false⟩))
  have HB := Lib.hid (B3.out.alloc B3.out.size (.cells (ScxO.cells ⟨.slice A1' n1 c1', .slice A2' n2 c2', .slice A3' n3 c3', at_, fld, old, new, 0, false⟩).toArray 141))
  have HS := Lib.hid B3.out.size
  clear q3 b3 hk D3 Q1 Q2
  go_wp2
  exact HQ'.out _ _ ⟨_, _, _, _, rfl, HS.out, HB.out, HH.out.addScx HB.out HN.out, Q1'.out _, Q2'.out _, Q3.out _⟩
end Go.Proofs.Ytphhdmopfmelbaa
