/- record.NewScx. Written by mk.py. -/
import Derived.Test.YtphhdmopfmelbaaNew
namespace Go.Proofs.Ytphhdmopfmelbaa
open Go.RowKit Go.Proofs.YtphhdmopfmelbaaW.PrintWords
set_option linter.unusedVariables false
set_option linter.unusedSimpArgs false

set_option maxHeartbeats 1000000 in
theorem newscx_int (A1 : Option Addr) (n1 c1 : Nat) (us1 : List Value) (A2 : Option Addr) (n2 c2 : Nat) (us2 : List Value) (A3 : Option Addr) (n3 c3 : Nat) (us3 : List Value) (at_ fld : Int) (old new : Option Nat)
    (R : Nat → Option RecO) (X : Nat → Option ScxO) (w : World) (h : Repint w R X) (hr1 : Row1 w A1 n1 us1) (hr2 : Row1 w A2 n2 us2) (hr3 : Row1 w A3 n3 us3)
    (hA1 : A1 = none → n1 = 0 ∧ c1 = 0) (hA2 : A2 = none → n2 = 0 ∧ c2 = 0) (hA3 : A3 = none → n3 = 0 ∧ c3 = 0)
    (o1 : ∀ u ∈ us1, u.oneCell' = true) (o2 : ∀ u ∈ us2, u.oneCell' = true) (o3 : ∀ u ∈ us3, u.oneCell' = true) (l1 : n1 ≤ 1000000000000) (l2 : n2 ≤ 1000000000000) (l3 : n3 ≤ 1000000000000) :
    Calls Try.prog 85 #[.slice A1 n1 c1, .slice A2 n2 c2, .slice A3 n3 c3, .int .i64 at_, .int .i64 fld, pv old, pv new] w fun e w' => ∃ b v1 v2 v3, e = .returned (pv (some b)) ∧ w.heap.size ≤ b ∧ Below w.heap.size w w' ∧
      Repint w' R (upd X b ⟨v1, v2, v3, at_, fld, old, new, 0, false⟩) ∧ w'.ownsRow w.heap.size 150 1 v1 n1 us1 ∧ w'.ownsRow w.heap.size 81 1 v2 n2 us2 ∧ w'.ownsRow w.heap.size 4 1 v3 n3 us3 := by
  refine calls_hide fun Q HQ => ?_
  have HQ' := Lib.hid HQ
  have HC1 := Lib.hid (clone_any_PRecordint A1 n1 c1 us1 w hA1 hr1 o1 l1)
  have HC2 := Lib.hid (fun w hr2 => clone_any_PScxint A2 n2 c2 us2 w hA2 hr2 o2 l2)
  have HC3 := Lib.hid (fun w hr3 => clone_any_bool A3 n3 c3 us3 w hA3 hr3 o3 l3)
  have HR2 := Lib.hid hr2
  have HR3 := Lib.hid hr3
  have HH := Lib.hid h
  clear HQ h hr1 hr2 hr3 hA1 hA2 hA3 o1 o2 o3 l1 l2 l3
  go_enter Try.func85, Try.ntmps85
  go_wp2_with fail
  refine HC1.out.mono ?_
  rintro e w1 ⟨A1', c1', rfl, q1, _, _, b1⟩
  have Q1 := Lib.hid q1
  have B1 := Lib.hid b1
  have D2 := Lib.hid (HC2.out w1 (HR2.out.below b1))
  clear q1 b1 HC1 HC2
  go_wp2_with fail
  refine D2.out.mono ?_
  rintro e w2 ⟨A2', c2', rfl, q2, _, _, b2⟩
  have Q2 := Lib.hid q2
  have B2 := Lib.hid (B1.out.trans (b2.mono B1.out.size))
  have B12 := Lib.hid b2
  have D3 := Lib.hid (HC3.out w2 ((HR3.out.below B1.out).below b2))
  clear q2 b2 HC3 D2
  go_wp2_with fail
  refine D3.out.mono ?_
  rintro e w3 ⟨A3', c3', rfl, q3, _, _, b3⟩
  have B3 := Lib.hid (B2.out.trans (b3.mono B2.out.size))
  have hk : ∀ (o : Obj) (k : Nat), k < w3.heap.size → (w3.alloc o).heap[k]? = w3.heap[k]? := fun o k hk => Below.heap_alloc _ _ _ hk
  have Q3 := Lib.hid (World.ownsRow.alloc (own_weaken q3 B2.out.size))
  have Q2' := Lib.hid (World.ownsRow.alloc (own_weaken (pw_own_below Q2.out b3) B1.out.size))
  have Q1' := Lib.hid (World.ownsRow.alloc (pw_own_below (pw_own_below Q1.out B12.out) b3))
  have HN := Lib.hid (Blk.new w3 152 (ScxO.cells ⟨.slice A1' n1 c1', .slice A2' n2 c2', .slice A3' n3 c3', at_, fld, old, new, 0, false⟩))
  have HB := Lib.hid (B3.out.alloc B3.out.size (.cells (ScxO.cells ⟨.slice A1' n1 c1', .slice A2' n2 c2', .slice A3' n3 c3', at_, fld, old, new, 0, false⟩).toArray 152))
  have HS := Lib.hid B3.out.size
  clear q3 b3 hk D3 Q1 Q2
  go_wp2
  exact HQ'.out _ _ ⟨_, _, _, _, rfl, HS.out, HB.out, HH.out.addScx HB.out HN.out, Q1'.out _, Q2'.out _, Q3.out _⟩

set_option maxHeartbeats 1000000 in
theorem newscx_L12thing (A1 : Option Addr) (n1 c1 : Nat) (us1 : List Value) (A2 : Option Addr) (n2 c2 : Nat) (us2 : List Value) (A3 : Option Addr) (n3 c3 : Nat) (us3 : List Value) (at_ fld : Int) (old new : Option Nat)
    (R : Nat → Option RecO) (X : Nat → Option ScxO) (w : World) (h : RepL12thing w R X) (hr1 : Row1 w A1 n1 us1) (hr2 : Row1 w A2 n2 us2) (hr3 : Row1 w A3 n3 us3)
    (hA1 : A1 = none → n1 = 0 ∧ c1 = 0) (hA2 : A2 = none → n2 = 0 ∧ c2 = 0) (hA3 : A3 = none → n3 = 0 ∧ c3 = 0)
    (o1 : ∀ u ∈ us1, u.oneCell' = true) (o2 : ∀ u ∈ us2, u.oneCell' = true) (o3 : ∀ u ∈ us3, u.oneCell' = true) (l1 : n1 ≤ 1000000000000) (l2 : n2 ≤ 1000000000000) (l3 : n3 ≤ 1000000000000) :
    Calls Try.prog 56 #[.slice A1 n1 c1, .slice A2 n2 c2, .slice A3 n3 c3, .int .i64 at_, .int .i64 fld, pv old, pv new] w fun e w' => ∃ b v1 v2 v3, e = .returned (pv (some b)) ∧ w.heap.size ≤ b ∧ Below w.heap.size w w' ∧
      RepL12thing w' R (upd X b ⟨v1, v2, v3, at_, fld, old, new, 0, false⟩) ∧ w'.ownsRow w.heap.size 103 1 v1 n1 us1 ∧ w'.ownsRow w.heap.size 109 1 v2 n2 us2 ∧ w'.ownsRow w.heap.size 4 1 v3 n3 us3 := by
  refine calls_hide fun Q HQ => ?_
  have HQ' := Lib.hid HQ
  have HC1 := Lib.hid (clone_any_PRecordL12thing A1 n1 c1 us1 w hA1 hr1 o1 l1)
  have HC2 := Lib.hid (fun w hr2 => clone_any_PScxL12thing A2 n2 c2 us2 w hA2 hr2 o2 l2)
  have HC3 := Lib.hid (fun w hr3 => clone_any_bool A3 n3 c3 us3 w hA3 hr3 o3 l3)
  have HR2 := Lib.hid hr2
  have HR3 := Lib.hid hr3
  have HH := Lib.hid h
  clear HQ h hr1 hr2 hr3 hA1 hA2 hA3 o1 o2 o3 l1 l2 l3
  go_enter Try.func56, Try.ntmps56
  go_wp2_with fail
  refine HC1.out.mono ?_
  rintro e w1 ⟨A1', c1', rfl, q1, _, _, b1⟩
  have Q1 := Lib.hid q1
  have B1 := Lib.hid b1
  have D2 := Lib.hid (HC2.out w1 (HR2.out.below b1))
  clear q1 b1 HC1 HC2
  go_wp2_with fail
  refine D2.out.mono ?_
  rintro e w2 ⟨A2', c2', rfl, q2, _, _, b2⟩
  have Q2 := Lib.hid q2
  have B2 := Lib.hid (B1.out.trans (b2.mono B1.out.size))
  have B12 := Lib.hid b2
  have D3 := Lib.hid (HC3.out w2 ((HR3.out.below B1.out).below b2))
  clear q2 b2 HC3 D2
  go_wp2_with fail
  refine D3.out.mono ?_
  rintro e w3 ⟨A3', c3', rfl, q3, _, _, b3⟩
  have B3 := Lib.hid (B2.out.trans (b3.mono B2.out.size))
  have hk : ∀ (o : Obj) (k : Nat), k < w3.heap.size → (w3.alloc o).heap[k]? = w3.heap[k]? := fun o k hk => Below.heap_alloc _ _ _ hk
  have Q3 := Lib.hid (World.ownsRow.alloc (own_weaken q3 B2.out.size))
  have Q2' := Lib.hid (World.ownsRow.alloc (own_weaken (pw_own_below Q2.out b3) B1.out.size))
  have Q1' := Lib.hid (World.ownsRow.alloc (pw_own_below (pw_own_below Q1.out B12.out) b3))
  have HN := Lib.hid (Blk.new w3 141 (ScxO.cells ⟨.slice A1' n1 c1', .slice A2' n2 c2', .slice A3' n3 c3', at_, fld, old, new, 0, false⟩))
  have HB := Lib.hid (B3.out.alloc B3.out.size (.cells (ScxO.cells ⟨.slice A1' n1 c1', .slice A2' n2 c2', .slice A3' n3 c3', at_, fld, old, new, 0, false⟩).toArray 141))
  have HS := Lib.hid B3.out.size
  clear q3 b3 hk D3 Q1 Q2
  go_wp2
  exact HQ'.out _ _ ⟨_, _, _, _, rfl, HS.out, HB.out, HH.out.addScx HB.out HN.out, Q1'.out _, Q2'.out _, Q3.out _⟩
end Go.Proofs.Ytphhdmopfmelbaa
