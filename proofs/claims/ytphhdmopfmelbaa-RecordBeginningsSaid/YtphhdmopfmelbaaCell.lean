/- Cells, numbers, marks: each access by a gate (nil or a tape). Written by mk.py. -/
import Derived.Test.YtphhdmopfmelbaaGate
import Derived.Deep.RegionWith
namespace Go.Proofs.Ytphhdmopfmelbaa
open Go.RowKit Go.Proofs.YtphhdmopfmelbaaW.PrintWords
abbrev TT : Nat := 102
abbrev ti : Nat := 3
set_option linter.unusedVariables false

theorem lies_Recordint : LiesOne Try.prog 178 4 := by unfold LiesOne; kernel_rfl
theorem size_Recordint : (Try.prog.info? 178).map (fun i => decide (i.size = 0)) = some false := by kernel_rfl

set_option maxHeartbeats 400000 in
theorem cell_load_Recordint (B : Nat) (g : Option Nat) (ks : List Int) (b o T : Nat) (xs : List Value) (w : World) (h : GAtI w B g ks) (hbB : B ≤ w.heap.size) (hl : ks.length ≤ 1000000000) (hb : Blk w b T xs) (h1 : T ≠ TT) (h2 : T ≠ ti) (p : Option Nat) (hx : xs[o]? = some (pv p)) (hp : PtrTo 178 4 w p) :
    Calls Try.prog 124 #[.pointer (some ⟨b, o, none⟩), gvI g] w fun e w' => e = .returned (pv p) ∧ StepI B g w w' (ks ++ [1]) (fun _ => False) := by
  go_enter Try.func124, Try.ntmps124
  go_wp2_with fail
  refine (pass_any B g ks 1 w h hbB hl).mono ?_
  rintro e w1 ⟨rfl, H⟩
  have hb1 := H.blk h hb h1 h2 (fun x => x)
  have hgt := H.gate
  have hto := fun (x : Option Nat) (hx : PtrTo 178 4 w1 x) => run_to_unsafe (P := Try.prog) (src := 150) (dst := 113) Try.underlying150 Try.underlying113 size_Recordint (by decide) hx
  have hfr := fun (x : Option Nat) (hx : PtrTo 178 4 w1 x) => run_from_unsafe (P := Try.prog) (src := 113) (dst := 150) Try.underlying113 Try.underlying150 size_Recordint lies_Recordint hx
  have hk := hfr p (hp.step h H (by decide) (by decide))
  clear hto hfr hp

  have hc1 : w1.cell? ⟨b, o, none⟩ = some (pv p) := by rw [hb1.cell o]; exact hx
  have hrun := run_call_load_ptr (P := Try.prog) Try.func141 (by kernel_rfl) (by kernel_rfl) (by kernel_rfl) (by kernel_rfl) hc1
  clear h hb hb1 hgt h1 h2 hx hl hbB
  go_wp2
  go_ret
  exact ⟨rfl, H⟩

set_option maxHeartbeats 400000 in
theorem cell_store_Recordint (B : Nat) (g : Option Nat) (ks : List Int) (b o T : Nat) (xs : List Value) (w : World) (h : GAtI w B g ks) (hbB : B ≤ w.heap.size) (hl : ks.length ≤ 1000000000) (hb : Blk w b T xs) (h1 : T ≠ TT) (h2 : T ≠ ti) (p : Option Nat) (u : Value) (hx : xs[o]? = some u) (hp : PtrTo 178 4 w p) :
    Calls Try.prog 88 #[.pointer (some ⟨b, o, none⟩), gvI g, pv p] w fun e w' => e = .returned (.tuple #[]) ∧ StepI B g w w' (ks ++ [2]) (fun k => k = b) ∧ Blk w' b T (xs.set o (pv p)) := by
  go_enter Try.func88, Try.ntmps88
  go_wp2_with fail
  refine (pass_any B g ks 2 w h hbB hl).mono ?_
  rintro e w1 ⟨rfl, H⟩
  have hb1 := H.blk h hb h1 h2 (fun x => x)
  have hgt := H.gate
  have hto := fun (x : Option Nat) (hx : PtrTo 178 4 w1 x) => run_to_unsafe (P := Try.prog) (src := 150) (dst := 113) Try.underlying150 Try.underlying113 size_Recordint (by decide) hx
  have hfr := fun (x : Option Nat) (hx : PtrTo 178 4 w1 x) => run_from_unsafe (P := Try.prog) (src := 113) (dst := 150) Try.underlying113 Try.underlying150 size_Recordint lies_Recordint hx
  have hk := hto p (hp.step h H (by decide) (by decide))
  clear hto hfr hp

  have hc1 : w1.cell? ⟨b, o, none⟩ = some u := by rw [hb1.cell o]; exact hx
  have hf1 : w1.frozen? ⟨b, o, none⟩ = false := hb1.free _ rfl
  have hrun := run_call_store (P := Try.prog) Try.func139 (by kernel_rfl) (by kernel_rfl) (by kernel_rfl) (by kernel_rfl) hc1 hf1 (v := pv p) rfl
  have hB := hb1.set o (pv p)
  have H2 : StepI B g w (w1.setCell ⟨b, o, none⟩ (pv p)) (ks ++ [2]) (fun k => k = b) :=
    (H.mono (S' := fun k => k = b) (fun _ _ x => x.elim)).trans (hgt.fr ((Fr.refl w1 (fun k => k = b)).setCell _ _ (fun _ => rfl)) (fun k hk e => hgt.apart hb1 h1 h2 (e ▸ hk))) (fun _ _ x => x)
  clear h hb hb1 hgt H h1 h2 hx hl hbB
  go_wp2
  go_end0
  go_wp2
  go_end0
  exact ⟨rfl, H2, hB⟩

set_option maxHeartbeats 400000 in
theorem cell_loadn_Recordint (b o T : Nat) (xs : List Value) (w : World) (hb : Blk w b T xs) (p : Option Nat) (hx : xs[o]? = some (pv p)) (hp : PtrTo 178 4 w p) :
    Calls Try.prog 124 #[.pointer (some ⟨b, o, none⟩), .nilIface] w fun e w' => e = .returned (pv p) ∧ w = w' := by
  have hc1 : w.cell? ⟨b, o, none⟩ = some (pv p) := by rw [hb.cell o]; exact hx
  have hrun := run_call_load_ptr (P := Try.prog) Try.func141 (by kernel_rfl) (by kernel_rfl) (by kernel_rfl) (by kernel_rfl) hc1
  have hto := fun (x : Option Nat) (hx : PtrTo 178 4 w x) => run_to_unsafe (P := Try.prog) (src := 150) (dst := 113) Try.underlying150 Try.underlying113 size_Recordint (by decide) hx
  have hfr := fun (x : Option Nat) (hx : PtrTo 178 4 w x) => run_from_unsafe (P := Try.prog) (src := 113) (dst := 150) Try.underlying113 Try.underlying150 size_Recordint lies_Recordint hx
  have hk := hfr p hp
  clear hto hfr hp
  clear hb hx
  go_enter Try.func124, Try.ntmps124
  go_wp2_with fail
  refine (pass_nil _ w).mono ?_
  rintro e w1 ⟨rfl, rfl⟩
  go_wp2
  go_ret
  exact ⟨rfl, rfl⟩

set_option maxHeartbeats 400000 in
theorem cell_cas_Recordint (B : Nat) (g : Option Nat) (ks : List Int) (b o T : Nat) (xs : List Value) (w : World) (h : GAtI w B g ks) (hbB : B ≤ w.heap.size) (hl : ks.length ≤ 1000000000) (hb : Blk w b T xs) (h1 : T ≠ TT) (h2 : T ≠ ti) (c x y : Option Nat) (hx : xs[o]? = some (pv c)) (kc : PtrTo 178 4 w c) (kx : PtrTo 178 4 w x) (ky : PtrTo 178 4 w y) :
    Calls Try.prog 115 #[.pointer (some ⟨b, o, none⟩), gvI g, pv x, pv y] w fun e w' => e = .returned (.bool (decide (c = x))) ∧ StepI B g w w' (ks ++ [5]) (fun k => k = b) ∧ Blk w' b T (if c = x then xs.set o (pv y) else xs) := by
  by_cases e : c = x
  all_goals
    first | rw [if_pos e, decide_eq_true e] | rw [if_neg e, decide_eq_false e]
    go_enter Try.func115, Try.ntmps115
    go_wp2_with fail
    refine (pass_any B g ks 5 w h hbB hl).mono ?_
    rintro e_ w1 ⟨rfl, H⟩
    have hb1 := H.blk h hb h1 h2 (fun x => x)
    have hgt := H.gate
    have hcas := run_call_cas_ptr (P := Try.prog) Try.func144 (by kernel_rfl) (by kernel_rfl) (by kernel_rfl) (by kernel_rfl) hb1 hx (kc.step h H (by decide) (by decide)).known (kx.step h H (by decide) (by decide)).known (y := hd y)
    have hto := fun (x : Option Nat) (hx : PtrTo 178 4 w1 x) => run_to_unsafe (P := Try.prog) (src := 150) (dst := 113) Try.underlying150 Try.underlying113 size_Recordint (by decide) hx
    have hfr := fun (x : Option Nat) (hx : PtrTo 178 4 w1 x) => run_from_unsafe (P := Try.prog) (src := 113) (dst := 150) Try.underlying113 Try.underlying150 size_Recordint lies_Recordint hx
    have hkx := hto x (kx.step h H (by decide) (by decide))
    have hky := hto y (ky.step h H (by decide) (by decide))
    clear hto hfr
    first | rw [if_pos e, decide_eq_true e] at hcas | rw [if_neg e, decide_eq_false e] at hcas
  · have hB := hb1.set o (pv y)
    have H2 : StepI B g w (w1.setCell ⟨b, o, none⟩ (pv y)) (ks ++ [5]) (fun k => k = b) :=
      (H.mono (S' := fun k => k = b) (fun _ _ x => x.elim)).trans (hgt.fr ((Fr.refl w1 (fun k => k = b)).setCell _ _ (fun _ => rfl)) (fun k hk e => hgt.apart hb1 h1 h2 (e ▸ hk))) (fun _ _ x => x)
    clear h hb hb1 hgt H kc kx ky e h1 h2 hx hl hbB
    go_wp2
    go_ret
    exact ⟨rfl, H2, hB⟩
  · have H2 : StepI B g w w1 (ks ++ [5]) (fun k => k = b) := H.mono (fun _ _ x => x.elim)
    have hB := hb1
    clear h hb hb1 hgt H kc kx ky e h1 h2 hx hl hbB
    go_wp2
    go_ret
    exact ⟨rfl, H2, hB⟩

theorem lies_RecordL12thing : LiesOne Try.prog 124 5 := by unfold LiesOne; kernel_rfl
theorem size_RecordL12thing : (Try.prog.info? 124).map (fun i => decide (i.size = 0)) = some false := by kernel_rfl

set_option maxHeartbeats 400000 in
theorem cell_load_RecordL12thing (B : Nat) (g : Option Nat) (ks : List Int) (b o T : Nat) (xs : List Value) (w : World) (h : GAtI w B g ks) (hbB : B ≤ w.heap.size) (hl : ks.length ≤ 1000000000) (hb : Blk w b T xs) (h1 : T ≠ TT) (h2 : T ≠ ti) (p : Option Nat) (hx : xs[o]? = some (pv p)) (hp : PtrTo 124 5 w p) :
    Calls Try.prog 104 #[.pointer (some ⟨b, o, none⟩), gvI g] w fun e w' => e = .returned (pv p) ∧ StepI B g w w' (ks ++ [1]) (fun _ => False) := by
  go_enter Try.func104, Try.ntmps104
  go_wp2_with fail
  refine (pass_any B g ks 1 w h hbB hl).mono ?_
  rintro e w1 ⟨rfl, H⟩
  have hb1 := H.blk h hb h1 h2 (fun x => x)
  have hgt := H.gate
  have hto := fun (x : Option Nat) (hx : PtrTo 124 5 w1 x) => run_to_unsafe (P := Try.prog) (src := 103) (dst := 113) Try.underlying103 Try.underlying113 size_RecordL12thing (by decide) hx
  have hfr := fun (x : Option Nat) (hx : PtrTo 124 5 w1 x) => run_from_unsafe (P := Try.prog) (src := 113) (dst := 103) Try.underlying113 Try.underlying103 size_RecordL12thing lies_RecordL12thing hx
  have hk := hfr p (hp.step h H (by decide) (by decide))
  clear hto hfr hp

  have hc1 : w1.cell? ⟨b, o, none⟩ = some (pv p) := by rw [hb1.cell o]; exact hx
  have hrun := run_call_load_ptr (P := Try.prog) Try.func141 (by kernel_rfl) (by kernel_rfl) (by kernel_rfl) (by kernel_rfl) hc1
  clear h hb hb1 hgt h1 h2 hx hl hbB
  go_wp2
  go_ret
  exact ⟨rfl, H⟩

set_option maxHeartbeats 400000 in
theorem cell_store_RecordL12thing (B : Nat) (g : Option Nat) (ks : List Int) (b o T : Nat) (xs : List Value) (w : World) (h : GAtI w B g ks) (hbB : B ≤ w.heap.size) (hl : ks.length ≤ 1000000000) (hb : Blk w b T xs) (h1 : T ≠ TT) (h2 : T ≠ ti) (p : Option Nat) (u : Value) (hx : xs[o]? = some u) (hp : PtrTo 124 5 w p) :
    Calls Try.prog 102 #[.pointer (some ⟨b, o, none⟩), gvI g, pv p] w fun e w' => e = .returned (.tuple #[]) ∧ StepI B g w w' (ks ++ [2]) (fun k => k = b) ∧ Blk w' b T (xs.set o (pv p)) := by
  go_enter Try.func102, Try.ntmps102
  go_wp2_with fail
  refine (pass_any B g ks 2 w h hbB hl).mono ?_
  rintro e w1 ⟨rfl, H⟩
  have hb1 := H.blk h hb h1 h2 (fun x => x)
  have hgt := H.gate
  have hto := fun (x : Option Nat) (hx : PtrTo 124 5 w1 x) => run_to_unsafe (P := Try.prog) (src := 103) (dst := 113) Try.underlying103 Try.underlying113 size_RecordL12thing (by decide) hx
  have hfr := fun (x : Option Nat) (hx : PtrTo 124 5 w1 x) => run_from_unsafe (P := Try.prog) (src := 113) (dst := 103) Try.underlying113 Try.underlying103 size_RecordL12thing lies_RecordL12thing hx
  have hk := hto p (hp.step h H (by decide) (by decide))
  clear hto hfr hp

  have hc1 : w1.cell? ⟨b, o, none⟩ = some u := by rw [hb1.cell o]; exact hx
  have hf1 : w1.frozen? ⟨b, o, none⟩ = false := hb1.free _ rfl
  have hrun := run_call_store (P := Try.prog) Try.func139 (by kernel_rfl) (by kernel_rfl) (by kernel_rfl) (by kernel_rfl) hc1 hf1 (v := pv p) rfl
  have hB := hb1.set o (pv p)
  have H2 : StepI B g w (w1.setCell ⟨b, o, none⟩ (pv p)) (ks ++ [2]) (fun k => k = b) :=
    (H.mono (S' := fun k => k = b) (fun _ _ x => x.elim)).trans (hgt.fr ((Fr.refl w1 (fun k => k = b)).setCell _ _ (fun _ => rfl)) (fun k hk e => hgt.apart hb1 h1 h2 (e ▸ hk))) (fun _ _ x => x)
  clear h hb hb1 hgt H h1 h2 hx hl hbB
  go_wp2
  go_end0
  go_wp2
  go_end0
  exact ⟨rfl, H2, hB⟩

set_option maxHeartbeats 400000 in
theorem cell_loadn_RecordL12thing (b o T : Nat) (xs : List Value) (w : World) (hb : Blk w b T xs) (p : Option Nat) (hx : xs[o]? = some (pv p)) (hp : PtrTo 124 5 w p) :
    Calls Try.prog 104 #[.pointer (some ⟨b, o, none⟩), .nilIface] w fun e w' => e = .returned (pv p) ∧ w = w' := by
  have hc1 : w.cell? ⟨b, o, none⟩ = some (pv p) := by rw [hb.cell o]; exact hx
  have hrun := run_call_load_ptr (P := Try.prog) Try.func141 (by kernel_rfl) (by kernel_rfl) (by kernel_rfl) (by kernel_rfl) hc1
  have hto := fun (x : Option Nat) (hx : PtrTo 124 5 w x) => run_to_unsafe (P := Try.prog) (src := 103) (dst := 113) Try.underlying103 Try.underlying113 size_RecordL12thing (by decide) hx
  have hfr := fun (x : Option Nat) (hx : PtrTo 124 5 w x) => run_from_unsafe (P := Try.prog) (src := 113) (dst := 103) Try.underlying113 Try.underlying103 size_RecordL12thing lies_RecordL12thing hx
  have hk := hfr p hp
  clear hto hfr hp
  clear hb hx
  go_enter Try.func104, Try.ntmps104
  go_wp2_with fail
  refine (pass_nil _ w).mono ?_
  rintro e w1 ⟨rfl, rfl⟩
  go_wp2
  go_ret
  exact ⟨rfl, rfl⟩

set_option maxHeartbeats 400000 in
theorem cell_cas_RecordL12thing (B : Nat) (g : Option Nat) (ks : List Int) (b o T : Nat) (xs : List Value) (w : World) (h : GAtI w B g ks) (hbB : B ≤ w.heap.size) (hl : ks.length ≤ 1000000000) (hb : Blk w b T xs) (h1 : T ≠ TT) (h2 : T ≠ ti) (c x y : Option Nat) (hx : xs[o]? = some (pv c)) (kc : PtrTo 124 5 w c) (kx : PtrTo 124 5 w x) (ky : PtrTo 124 5 w y) :
    Calls Try.prog 108 #[.pointer (some ⟨b, o, none⟩), gvI g, pv x, pv y] w fun e w' => e = .returned (.bool (decide (c = x))) ∧ StepI B g w w' (ks ++ [5]) (fun k => k = b) ∧ Blk w' b T (if c = x then xs.set o (pv y) else xs) := by
  by_cases e : c = x
  all_goals
    first | rw [if_pos e, decide_eq_true e] | rw [if_neg e, decide_eq_false e]
    go_enter Try.func108, Try.ntmps108
    go_wp2_with fail
    refine (pass_any B g ks 5 w h hbB hl).mono ?_
    rintro e_ w1 ⟨rfl, H⟩
    have hb1 := H.blk h hb h1 h2 (fun x => x)
    have hgt := H.gate
    have hcas := run_call_cas_ptr (P := Try.prog) Try.func144 (by kernel_rfl) (by kernel_rfl) (by kernel_rfl) (by kernel_rfl) hb1 hx (kc.step h H (by decide) (by decide)).known (kx.step h H (by decide) (by decide)).known (y := hd y)
    have hto := fun (x : Option Nat) (hx : PtrTo 124 5 w1 x) => run_to_unsafe (P := Try.prog) (src := 103) (dst := 113) Try.underlying103 Try.underlying113 size_RecordL12thing (by decide) hx
    have hfr := fun (x : Option Nat) (hx : PtrTo 124 5 w1 x) => run_from_unsafe (P := Try.prog) (src := 113) (dst := 103) Try.underlying113 Try.underlying103 size_RecordL12thing lies_RecordL12thing hx
    have hkx := hto x (kx.step h H (by decide) (by decide))
    have hky := hto y (ky.step h H (by decide) (by decide))
    clear hto hfr
    first | rw [if_pos e, decide_eq_true e] at hcas | rw [if_neg e, decide_eq_false e] at hcas
  · have hB := hb1.set o (pv y)
    have H2 : StepI B g w (w1.setCell ⟨b, o, none⟩ (pv y)) (ks ++ [5]) (fun k => k = b) :=
      (H.mono (S' := fun k => k = b) (fun _ _ x => x.elim)).trans (hgt.fr ((Fr.refl w1 (fun k => k = b)).setCell _ _ (fun _ => rfl)) (fun k hk e => hgt.apart hb1 h1 h2 (e ▸ hk))) (fun _ _ x => x)
    clear h hb hb1 hgt H kc kx ky e h1 h2 hx hl hbB
    go_wp2
    go_ret
    exact ⟨rfl, H2, hB⟩
  · have H2 : StepI B g w w1 (ks ++ [5]) (fun k => k = b) := H.mono (fun _ _ x => x.elim)
    have hB := hb1
    clear h hb hb1 hgt H kc kx ky e h1 h2 hx hl hbB
    go_wp2
    go_ret
    exact ⟨rfl, H2, hB⟩

theorem lies_Scxint : LiesOne Try.prog 152 9 := by unfold LiesOne; kernel_rfl
theorem size_Scxint : (Try.prog.info? 152).map (fun i => decide (i.size = 0)) = some false := by kernel_rfl

set_option maxHeartbeats 400000 in
theorem cell_load_Scxint (B : Nat) (g : Option Nat) (ks : List Int) (b o T : Nat) (xs : List Value) (w : World) (h : GAtI w B g ks) (hbB : B ≤ w.heap.size) (hl : ks.length ≤ 1000000000) (hb : Blk w b T xs) (h1 : T ≠ TT) (h2 : T ≠ ti) (p : Option Nat) (hx : xs[o]? = some (pv p)) (hp : PtrTo 152 9 w p) :
    Calls Try.prog 114 #[.pointer (some ⟨b, o, none⟩), gvI g] w fun e w' => e = .returned (pv p) ∧ StepI B g w w' (ks ++ [1]) (fun _ => False) := by
  go_enter Try.func114, Try.ntmps114
  go_wp2_with fail
  refine (pass_any B g ks 1 w h hbB hl).mono ?_
  rintro e w1 ⟨rfl, H⟩
  have hb1 := H.blk h hb h1 h2 (fun x => x)
  have hgt := H.gate
  have hto := fun (x : Option Nat) (hx : PtrTo 152 9 w1 x) => run_to_unsafe (P := Try.prog) (src := 81) (dst := 113) Try.underlying81 Try.underlying113 size_Scxint (by decide) hx
  have hfr := fun (x : Option Nat) (hx : PtrTo 152 9 w1 x) => run_from_unsafe (P := Try.prog) (src := 113) (dst := 81) Try.underlying113 Try.underlying81 size_Scxint lies_Scxint hx
  have hk := hfr p (hp.step h H (by decide) (by decide))
  clear hto hfr hp

  have hc1 : w1.cell? ⟨b, o, none⟩ = some (pv p) := by rw [hb1.cell o]; exact hx
  have hrun := run_call_load_ptr (P := Try.prog) Try.func141 (by kernel_rfl) (by kernel_rfl) (by kernel_rfl) (by kernel_rfl) hc1
  clear h hb hb1 hgt h1 h2 hx hl hbB
  go_wp2
  go_ret
  exact ⟨rfl, H⟩

set_option maxHeartbeats 400000 in
theorem cell_store_Scxint (B : Nat) (g : Option Nat) (ks : List Int) (b o T : Nat) (xs : List Value) (w : World) (h : GAtI w B g ks) (hbB : B ≤ w.heap.size) (hl : ks.length ≤ 1000000000) (hb : Blk w b T xs) (h1 : T ≠ TT) (h2 : T ≠ ti) (p : Option Nat) (u : Value) (hx : xs[o]? = some u) (hp : PtrTo 152 9 w p) :
    Calls Try.prog 90 #[.pointer (some ⟨b, o, none⟩), gvI g, pv p] w fun e w' => e = .returned (.tuple #[]) ∧ StepI B g w w' (ks ++ [2]) (fun k => k = b) ∧ Blk w' b T (xs.set o (pv p)) := by
  go_enter Try.func90, Try.ntmps90
  go_wp2_with fail
  refine (pass_any B g ks 2 w h hbB hl).mono ?_
  rintro e w1 ⟨rfl, H⟩
  have hb1 := H.blk h hb h1 h2 (fun x => x)
  have hgt := H.gate
  have hto := fun (x : Option Nat) (hx : PtrTo 152 9 w1 x) => run_to_unsafe (P := Try.prog) (src := 81) (dst := 113) Try.underlying81 Try.underlying113 size_Scxint (by decide) hx
  have hfr := fun (x : Option Nat) (hx : PtrTo 152 9 w1 x) => run_from_unsafe (P := Try.prog) (src := 113) (dst := 81) Try.underlying113 Try.underlying81 size_Scxint lies_Scxint hx
  have hk := hto p (hp.step h H (by decide) (by decide))
  clear hto hfr hp

  have hc1 : w1.cell? ⟨b, o, none⟩ = some u := by rw [hb1.cell o]; exact hx
  have hf1 : w1.frozen? ⟨b, o, none⟩ = false := hb1.free _ rfl
  have hrun := run_call_store (P := Try.prog) Try.func139 (by kernel_rfl) (by kernel_rfl) (by kernel_rfl) (by kernel_rfl) hc1 hf1 (v := pv p) rfl
  have hB := hb1.set o (pv p)
  have H2 : StepI B g w (w1.setCell ⟨b, o, none⟩ (pv p)) (ks ++ [2]) (fun k => k = b) :=
    (H.mono (S' := fun k => k = b) (fun _ _ x => x.elim)).trans (hgt.fr ((Fr.refl w1 (fun k => k = b)).setCell _ _ (fun _ => rfl)) (fun k hk e => hgt.apart hb1 h1 h2 (e ▸ hk))) (fun _ _ x => x)
  clear h hb hb1 hgt H h1 h2 hx hl hbB
  go_wp2
  go_end0
  go_wp2
  go_end0
  exact ⟨rfl, H2, hB⟩

set_option maxHeartbeats 400000 in
theorem cell_loadn_Scxint (b o T : Nat) (xs : List Value) (w : World) (hb : Blk w b T xs) (p : Option Nat) (hx : xs[o]? = some (pv p)) (hp : PtrTo 152 9 w p) :
    Calls Try.prog 114 #[.pointer (some ⟨b, o, none⟩), .nilIface] w fun e w' => e = .returned (pv p) ∧ w = w' := by
  have hc1 : w.cell? ⟨b, o, none⟩ = some (pv p) := by rw [hb.cell o]; exact hx
  have hrun := run_call_load_ptr (P := Try.prog) Try.func141 (by kernel_rfl) (by kernel_rfl) (by kernel_rfl) (by kernel_rfl) hc1
  have hto := fun (x : Option Nat) (hx : PtrTo 152 9 w x) => run_to_unsafe (P := Try.prog) (src := 81) (dst := 113) Try.underlying81 Try.underlying113 size_Scxint (by decide) hx
  have hfr := fun (x : Option Nat) (hx : PtrTo 152 9 w x) => run_from_unsafe (P := Try.prog) (src := 113) (dst := 81) Try.underlying113 Try.underlying81 size_Scxint lies_Scxint hx
  have hk := hfr p hp
  clear hto hfr hp
  clear hb hx
  go_enter Try.func114, Try.ntmps114
  go_wp2_with fail
  refine (pass_nil _ w).mono ?_
  rintro e w1 ⟨rfl, rfl⟩
  go_wp2
  go_ret
  exact ⟨rfl, rfl⟩

set_option maxHeartbeats 400000 in
theorem cell_cas_Scxint (B : Nat) (g : Option Nat) (ks : List Int) (b o T : Nat) (xs : List Value) (w : World) (h : GAtI w B g ks) (hbB : B ≤ w.heap.size) (hl : ks.length ≤ 1000000000) (hb : Blk w b T xs) (h1 : T ≠ TT) (h2 : T ≠ ti) (c x y : Option Nat) (hx : xs[o]? = some (pv c)) (kc : PtrTo 152 9 w c) (kx : PtrTo 152 9 w x) (ky : PtrTo 152 9 w y) :
    Calls Try.prog 113 #[.pointer (some ⟨b, o, none⟩), gvI g, pv x, pv y] w fun e w' => e = .returned (.bool (decide (c = x))) ∧ StepI B g w w' (ks ++ [5]) (fun k => k = b) ∧ Blk w' b T (if c = x then xs.set o (pv y) else xs) := by
  by_cases e : c = x
  all_goals
    first | rw [if_pos e, decide_eq_true e] | rw [if_neg e, decide_eq_false e]
    go_enter Try.func113, Try.ntmps113
    go_wp2_with fail
    refine (pass_any B g ks 5 w h hbB hl).mono ?_
    rintro e_ w1 ⟨rfl, H⟩
    have hb1 := H.blk h hb h1 h2 (fun x => x)
    have hgt := H.gate
    have hcas := run_call_cas_ptr (P := Try.prog) Try.func144 (by kernel_rfl) (by kernel_rfl) (by kernel_rfl) (by kernel_rfl) hb1 hx (kc.step h H (by decide) (by decide)).known (kx.step h H (by decide) (by decide)).known (y := hd y)
    have hto := fun (x : Option Nat) (hx : PtrTo 152 9 w1 x) => run_to_unsafe (P := Try.prog) (src := 81) (dst := 113) Try.underlying81 Try.underlying113 size_Scxint (by decide) hx
    have hfr := fun (x : Option Nat) (hx : PtrTo 152 9 w1 x) => run_from_unsafe (P := Try.prog) (src := 113) (dst := 81) Try.underlying113 Try.underlying81 size_Scxint lies_Scxint hx
    have hkx := hto x (kx.step h H (by decide) (by decide))
    have hky := hto y (ky.step h H (by decide) (by decide))
    clear hto hfr
    first | rw [if_pos e, decide_eq_true e] at hcas | rw [if_neg e, decide_eq_false e] at hcas
  · have hB := hb1.set o (pv y)
    have H2 : StepI B g w (w1.setCell ⟨b, o, none⟩ (pv y)) (ks ++ [5]) (fun k => k = b) :=
      (H.mono (S' := fun k => k = b) (fun _ _ x => x.elim)).trans (hgt.fr ((Fr.refl w1 (fun k => k = b)).setCell _ _ (fun _ => rfl)) (fun k hk e => hgt.apart hb1 h1 h2 (e ▸ hk))) (fun _ _ x => x)
    clear h hb hb1 hgt H kc kx ky e h1 h2 hx hl hbB
    go_wp2
    go_ret
    exact ⟨rfl, H2, hB⟩
  · have H2 : StepI B g w w1 (ks ++ [5]) (fun k => k = b) := H.mono (fun _ _ x => x.elim)
    have hB := hb1
    clear h hb hb1 hgt H kc kx ky e h1 h2 hx hl hbB
    go_wp2
    go_ret
    exact ⟨rfl, H2, hB⟩

theorem lies_ScxL12thing : LiesOne Try.prog 141 9 := by unfold LiesOne; kernel_rfl
theorem size_ScxL12thing : (Try.prog.info? 141).map (fun i => decide (i.size = 0)) = some false := by kernel_rfl

set_option maxHeartbeats 400000 in
theorem cell_load_ScxL12thing (B : Nat) (g : Option Nat) (ks : List Int) (b o T : Nat) (xs : List Value) (w : World) (h : GAtI w B g ks) (hbB : B ≤ w.heap.size) (hl : ks.length ≤ 1000000000) (hb : Blk w b T xs) (h1 : T ≠ TT) (h2 : T ≠ ti) (p : Option Nat) (hx : xs[o]? = some (pv p)) (hp : PtrTo 141 9 w p) :
    Calls Try.prog 106 #[.pointer (some ⟨b, o, none⟩), gvI g] w fun e w' => e = .returned (pv p) ∧ StepI B g w w' (ks ++ [1]) (fun _ => False) := by
  go_enter Try.func106, Try.ntmps106
  go_wp2_with fail
  refine (pass_any B g ks 1 w h hbB hl).mono ?_
  rintro e w1 ⟨rfl, H⟩
  have hb1 := H.blk h hb h1 h2 (fun x => x)
  have hgt := H.gate
  have hto := fun (x : Option Nat) (hx : PtrTo 141 9 w1 x) => run_to_unsafe (P := Try.prog) (src := 109) (dst := 113) Try.underlying109 Try.underlying113 size_ScxL12thing (by decide) hx
  have hfr := fun (x : Option Nat) (hx : PtrTo 141 9 w1 x) => run_from_unsafe (P := Try.prog) (src := 113) (dst := 109) Try.underlying113 Try.underlying109 size_ScxL12thing lies_ScxL12thing hx
  have hk := hfr p (hp.step h H (by decide) (by decide))
  clear hto hfr hp

  have hc1 : w1.cell? ⟨b, o, none⟩ = some (pv p) := by rw [hb1.cell o]; exact hx
  have hrun := run_call_load_ptr (P := Try.prog) Try.func141 (by kernel_rfl) (by kernel_rfl) (by kernel_rfl) (by kernel_rfl) hc1
  clear h hb hb1 hgt h1 h2 hx hl hbB
  go_wp2
  go_ret
  exact ⟨rfl, H⟩

set_option maxHeartbeats 400000 in
theorem cell_store_ScxL12thing (B : Nat) (g : Option Nat) (ks : List Int) (b o T : Nat) (xs : List Value) (w : World) (h : GAtI w B g ks) (hbB : B ≤ w.heap.size) (hl : ks.length ≤ 1000000000) (hb : Blk w b T xs) (h1 : T ≠ TT) (h2 : T ≠ ti) (p : Option Nat) (u : Value) (hx : xs[o]? = some u) (hp : PtrTo 141 9 w p) :
    Calls Try.prog 103 #[.pointer (some ⟨b, o, none⟩), gvI g, pv p] w fun e w' => e = .returned (.tuple #[]) ∧ StepI B g w w' (ks ++ [2]) (fun k => k = b) ∧ Blk w' b T (xs.set o (pv p)) := by
  go_enter Try.func103, Try.ntmps103
  go_wp2_with fail
  refine (pass_any B g ks 2 w h hbB hl).mono ?_
  rintro e w1 ⟨rfl, H⟩
  have hb1 := H.blk h hb h1 h2 (fun x => x)
  have hgt := H.gate
  have hto := fun (x : Option Nat) (hx : PtrTo 141 9 w1 x) => run_to_unsafe (P := Try.prog) (src := 109) (dst := 113) Try.underlying109 Try.underlying113 size_ScxL12thing (by decide) hx
  have hfr := fun (x : Option Nat) (hx : PtrTo 141 9 w1 x) => run_from_unsafe (P := Try.prog) (src := 113) (dst := 109) Try.underlying113 Try.underlying109 size_ScxL12thing lies_ScxL12thing hx
  have hk := hto p (hp.step h H (by decide) (by decide))
  clear hto hfr hp

  have hc1 : w1.cell? ⟨b, o, none⟩ = some u := by rw [hb1.cell o]; exact hx
  have hf1 : w1.frozen? ⟨b, o, none⟩ = false := hb1.free _ rfl
  have hrun := run_call_store (P := Try.prog) Try.func139 (by kernel_rfl) (by kernel_rfl) (by kernel_rfl) (by kernel_rfl) hc1 hf1 (v := pv p) rfl
  have hB := hb1.set o (pv p)
  have H2 : StepI B g w (w1.setCell ⟨b, o, none⟩ (pv p)) (ks ++ [2]) (fun k => k = b) :=
    (H.mono (S' := fun k => k = b) (fun _ _ x => x.elim)).trans (hgt.fr ((Fr.refl w1 (fun k => k = b)).setCell _ _ (fun _ => rfl)) (fun k hk e => hgt.apart hb1 h1 h2 (e ▸ hk))) (fun _ _ x => x)
  clear h hb hb1 hgt H h1 h2 hx hl hbB
  go_wp2
  go_end0
  go_wp2
  go_end0
  exact ⟨rfl, H2, hB⟩

set_option maxHeartbeats 400000 in
theorem cell_loadn_ScxL12thing (b o T : Nat) (xs : List Value) (w : World) (hb : Blk w b T xs) (p : Option Nat) (hx : xs[o]? = some (pv p)) (hp : PtrTo 141 9 w p) :
    Calls Try.prog 106 #[.pointer (some ⟨b, o, none⟩), .nilIface] w fun e w' => e = .returned (pv p) ∧ w = w' := by
  have hc1 : w.cell? ⟨b, o, none⟩ = some (pv p) := by rw [hb.cell o]; exact hx
  have hrun := run_call_load_ptr (P := Try.prog) Try.func141 (by kernel_rfl) (by kernel_rfl) (by kernel_rfl) (by kernel_rfl) hc1
  have hto := fun (x : Option Nat) (hx : PtrTo 141 9 w x) => run_to_unsafe (P := Try.prog) (src := 109) (dst := 113) Try.underlying109 Try.underlying113 size_ScxL12thing (by decide) hx
  have hfr := fun (x : Option Nat) (hx : PtrTo 141 9 w x) => run_from_unsafe (P := Try.prog) (src := 113) (dst := 109) Try.underlying113 Try.underlying109 size_ScxL12thing lies_ScxL12thing hx
  have hk := hfr p hp
  clear hto hfr hp
  clear hb hx
  go_enter Try.func106, Try.ntmps106
  go_wp2_with fail
  refine (pass_nil _ w).mono ?_
  rintro e w1 ⟨rfl, rfl⟩
  go_wp2
  go_ret
  exact ⟨rfl, rfl⟩

set_option maxHeartbeats 400000 in
theorem cell_cas_ScxL12thing (B : Nat) (g : Option Nat) (ks : List Int) (b o T : Nat) (xs : List Value) (w : World) (h : GAtI w B g ks) (hbB : B ≤ w.heap.size) (hl : ks.length ≤ 1000000000) (hb : Blk w b T xs) (h1 : T ≠ TT) (h2 : T ≠ ti) (c x y : Option Nat) (hx : xs[o]? = some (pv c)) (kc : PtrTo 141 9 w c) (kx : PtrTo 141 9 w x) (ky : PtrTo 141 9 w y) :
    Calls Try.prog 112 #[.pointer (some ⟨b, o, none⟩), gvI g, pv x, pv y] w fun e w' => e = .returned (.bool (decide (c = x))) ∧ StepI B g w w' (ks ++ [5]) (fun k => k = b) ∧ Blk w' b T (if c = x then xs.set o (pv y) else xs) := by
  by_cases e : c = x
  all_goals
    first | rw [if_pos e, decide_eq_true e] | rw [if_neg e, decide_eq_false e]
    go_enter Try.func112, Try.ntmps112
    go_wp2_with fail
    refine (pass_any B g ks 5 w h hbB hl).mono ?_
    rintro e_ w1 ⟨rfl, H⟩
    have hb1 := H.blk h hb h1 h2 (fun x => x)
    have hgt := H.gate
    have hcas := run_call_cas_ptr (P := Try.prog) Try.func144 (by kernel_rfl) (by kernel_rfl) (by kernel_rfl) (by kernel_rfl) hb1 hx (kc.step h H (by decide) (by decide)).known (kx.step h H (by decide) (by decide)).known (y := hd y)
    have hto := fun (x : Option Nat) (hx : PtrTo 141 9 w1 x) => run_to_unsafe (P := Try.prog) (src := 109) (dst := 113) Try.underlying109 Try.underlying113 size_ScxL12thing (by decide) hx
    have hfr := fun (x : Option Nat) (hx : PtrTo 141 9 w1 x) => run_from_unsafe (P := Try.prog) (src := 113) (dst := 109) Try.underlying113 Try.underlying109 size_ScxL12thing lies_ScxL12thing hx
    have hkx := hto x (kx.step h H (by decide) (by decide))
    have hky := hto y (ky.step h H (by decide) (by decide))
    clear hto hfr
    first | rw [if_pos e, decide_eq_true e] at hcas | rw [if_neg e, decide_eq_false e] at hcas
  · have hB := hb1.set o (pv y)
    have H2 : StepI B g w (w1.setCell ⟨b, o, none⟩ (pv y)) (ks ++ [5]) (fun k => k = b) :=
      (H.mono (S' := fun k => k = b) (fun _ _ x => x.elim)).trans (hgt.fr ((Fr.refl w1 (fun k => k = b)).setCell _ _ (fun _ => rfl)) (fun k hk e => hgt.apart hb1 h1 h2 (e ▸ hk))) (fun _ _ x => x)
    clear h hb hb1 hgt H kc kx ky e h1 h2 hx hl hbB
    go_wp2
    go_ret
    exact ⟨rfl, H2, hB⟩
  · have H2 : StepI B g w w1 (ks ++ [5]) (fun k => k = b) := H.mono (fun _ _ x => x.elim)
    have hB := hb1
    clear h hb hb1 hgt H kc kx ky e h1 h2 hx hl hbB
    go_wp2
    go_ret
    exact ⟨rfl, H2, hB⟩

set_option maxHeartbeats 400000 in
theorem num_load (B : Nat) (g : Option Nat) (ks : List Int) (b o T : Nat) (xs : List Value) (w : World) (h : GAtI w B g ks) (hbB : B ≤ w.heap.size) (hl : ks.length ≤ 1000000000) (hb : Blk w b T xs) (h1 : T ≠ TT) (h2 : T ≠ ti) (n : Int) (hn0 : 0 ≤ n) (hn1 : n ≤ 1000) (hx : xs[o]? = some (.int .i64 n)) :
    Calls Try.prog 107 #[.pointer (some ⟨b, o, none⟩), gvI g] w fun e w' => e = .returned (.int .i64 n) ∧ StepI B g w w' (ks ++ [1]) (fun _ => False) := by
  go_enter Try.func107, Try.ntmps107
  go_wp2_with fail
  refine (pass_any B g ks 1 w h hbB hl).mono ?_
  rintro e w1 ⟨rfl, H⟩
  have hb1 := H.blk h hb h1 h2 (fun x => x)
  have hgt := H.gate

  have hc1 : w1.cell? ⟨b, o, none⟩ = some (.int .i64 n) := by rw [hb1.cell o]; exact hx
  have hrun := run_call_load_int (P := Try.prog) Try.func143 (by kernel_rfl) (by kernel_rfl) (by kernel_rfl) .i64 (by kernel_rfl) hc1
  clear h hb hb1 hgt h1 h2 hx hl hbB
  go_wp2
  go_ret
  exact ⟨rfl, H⟩

set_option maxHeartbeats 400000 in
theorem num_loadn (b o T : Nat) (xs : List Value) (w : World) (hb : Blk w b T xs) (n : Int) (hn0 : 0 ≤ n) (hn1 : n ≤ 1000) (hx : xs[o]? = some (.int .i64 n)) :
    Calls Try.prog 107 #[.pointer (some ⟨b, o, none⟩), .nilIface] w fun e w' => e = .returned (.int .i64 n) ∧ w = w' := by
  have hc1 : w.cell? ⟨b, o, none⟩ = some (.int .i64 n) := by rw [hb.cell o]; exact hx
  have hrun := run_call_load_int (P := Try.prog) Try.func143 (by kernel_rfl) (by kernel_rfl) (by kernel_rfl) .i64 (by kernel_rfl) hc1
  clear hb hx
  go_enter Try.func107, Try.ntmps107
  go_wp2_with fail
  refine (pass_nil _ w).mono ?_
  rintro e w1 ⟨rfl, rfl⟩
  go_wp2
  go_ret
  exact ⟨rfl, rfl⟩

set_option maxHeartbeats 400000 in
theorem num_store (B : Nat) (g : Option Nat) (ks : List Int) (b o T : Nat) (xs : List Value) (w : World) (h : GAtI w B g ks) (hbB : B ≤ w.heap.size) (hl : ks.length ≤ 1000000000) (hb : Blk w b T xs) (h1 : T ≠ TT) (h2 : T ≠ ti) (n : Int) (hn0 : 0 ≤ n) (hn1 : n ≤ 1000) (u : Value) (hx : xs[o]? = some u) :
    Calls Try.prog 86 #[.pointer (some ⟨b, o, none⟩), gvI g, .int .i64 n] w fun e w' => e = .returned (.tuple #[]) ∧ StepI B g w w' (ks ++ [2]) (fun k => k = b) ∧ Blk w' b T (xs.set o (.int .i64 n)) := by
  go_enter Try.func86, Try.ntmps86
  go_wp2_with fail
  refine (pass_any B g ks 2 w h hbB hl).mono ?_
  rintro e w1 ⟨rfl, H⟩
  have hb1 := H.blk h hb h1 h2 (fun x => x)
  have hgt := H.gate

  have hc1 : w1.cell? ⟨b, o, none⟩ = some u := by rw [hb1.cell o]; exact hx
  have hf1 : w1.frozen? ⟨b, o, none⟩ = false := hb1.free _ rfl
  have hrun := run_call_store (P := Try.prog) Try.func136 (by kernel_rfl) (by kernel_rfl) (by kernel_rfl) (by kernel_rfl) hc1 hf1 (v := .int .i64 n) rfl
  have hB := hb1.set o (.int .i64 n)
  have H2 : StepI B g w (w1.setCell ⟨b, o, none⟩ (.int .i64 n)) (ks ++ [2]) (fun k => k = b) :=
    (H.mono (S' := fun k => k = b) (fun _ _ x => x.elim)).trans (hgt.fr ((Fr.refl w1 (fun k => k = b)).setCell _ _ (fun _ => rfl)) (fun k hk e => hgt.apart hb1 h1 h2 (e ▸ hk))) (fun _ _ x => x)
  clear h hb hb1 hgt H h1 h2 hx hl hbB
  go_wp2
  go_end0
  go_wp2
  go_end0
  exact ⟨rfl, H2, hB⟩

set_option maxHeartbeats 400000 in
theorem b32_false (w : World) : Calls Try.prog 138 #[.bool false] w fun e w' => e = .returned (.int .u32 0) ∧ w = w' := by
  go_enter Try.func138, Try.ntmps138
  go_wp2
  go_ret
  exact ⟨rfl, rfl⟩
set_option maxHeartbeats 400000 in
theorem bool_store_false (a : Addr) (w : World) (u : Value) (hc : w.cell? a = some u) (hf : w.frozen? a = false) :
    Calls Try.prog 121 #[.pointer (some a), .bool false] w fun e w' => e = .returned (.tuple #[]) ∧ w' = w.drew.setCell a (.int .u32 0) := by
  have hc1 : w.drew.cell? a = some u := hc
  have hf1 : w.drew.frozen? a = false := hf
  have hrun := run_call_store (P := Try.prog) Try.func137 (by kernel_rfl) (by kernel_rfl) (by kernel_rfl) (by kernel_rfl) hc1 hf1 (v := .int .u32 0) rfl
  go_enter Try.func121, Try.ntmps121
  go_region_with (go_at_call 138; refine (b32_false _).mono ?_; rintro e w' ⟨rfl, rfl⟩)
  go_end0
  exact ⟨rfl, rfl⟩

set_option maxHeartbeats 400000 in
theorem mark_load_false (B : Nat) (g : Option Nat) (ks : List Int) (b o T : Nat) (xs : List Value) (w : World) (h : GAtI w B g ks) (hbB : B ≤ w.heap.size) (hl : ks.length ≤ 1000000000) (hb : Blk w b T xs) (h1 : T ≠ TT) (h2 : T ≠ ti) (hx : xs[o]? = some (.int .u32 0)) :
    Calls Try.prog 105 #[.pointer (some ⟨b, o, none⟩), gvI g] w fun e w' => e = .returned (.bool false) ∧ StepI B g w w' (ks ++ [1]) (fun _ => False) := by
  go_enter Try.func105, Try.ntmps105
  go_wp2_with fail
  refine (pass_any B g ks 1 w h hbB hl).mono ?_
  rintro e w1 ⟨rfl, H⟩
  have hb1 := H.blk h hb h1 h2 (fun x => x)
  have hgt := H.gate

  have hc1 : w1.cell? ⟨b, o, none⟩ = some (.int .u32 0) := by rw [hb1.cell o]; exact hx
  have hrun := run_call_load_int (P := Try.prog) Try.func142 (by kernel_rfl) (by kernel_rfl) (by kernel_rfl) .u32 (by kernel_rfl) hc1
  clear h hb hb1 hgt h1 h2 hx hl hbB
  go_wp2
  go_ret
  exact ⟨rfl, H⟩

set_option maxHeartbeats 400000 in
theorem mark_loadn_false (b o T : Nat) (xs : List Value) (w : World) (hb : Blk w b T xs) (hx : xs[o]? = some (.int .u32 0)) :
    Calls Try.prog 105 #[.pointer (some ⟨b, o, none⟩), .nilIface] w fun e w' => e = .returned (.bool false) ∧ w = w' := by
  have hc1 : w.cell? ⟨b, o, none⟩ = some (.int .u32 0) := by rw [hb.cell o]; exact hx
  have hrun := run_call_load_int (P := Try.prog) Try.func142 (by kernel_rfl) (by kernel_rfl) (by kernel_rfl) .u32 (by kernel_rfl) hc1
  clear hb hx
  go_enter Try.func105, Try.ntmps105
  go_wp2_with fail
  refine (pass_nil _ w).mono ?_
  rintro e w1 ⟨rfl, rfl⟩
  go_wp2
  go_ret
  exact ⟨rfl, rfl⟩

set_option maxHeartbeats 400000 in
theorem mark_store_false (B : Nat) (g : Option Nat) (ks : List Int) (b o T : Nat) (xs : List Value) (w : World) (h : GAtI w B g ks) (hbB : B ≤ w.heap.size) (hl : ks.length ≤ 1000000000) (hb : Blk w b T xs) (h1 : T ≠ TT) (h2 : T ≠ ti) (u : Value) (hx : xs[o]? = some u) :
    Calls Try.prog 87 #[.pointer (some ⟨b, o, none⟩), gvI g, .bool false] w fun e w' => e = .returned (.tuple #[]) ∧ StepI B g w w' (ks ++ [2]) (fun k => k = b) ∧ Blk w' b T (xs.set o (.int .u32 0)) := by
  go_enter Try.func87, Try.ntmps87
  go_wp2_with fail
  refine (pass_any B g ks 2 w h hbB hl).mono ?_
  rintro e w1 ⟨rfl, H⟩
  have hb1 := H.blk h hb h1 h2 (fun x => x)
  have hgt := H.gate

  have hc1 : w1.cell? ⟨b, o, none⟩ = some u := by rw [hb1.cell o]; exact hx
  have hf1 : w1.frozen? ⟨b, o, none⟩ = false := hb1.free _ rfl
  have hB : Blk (w1.drew.setCell ⟨b, o, none⟩ (.int .u32 0)) b T (xs.set o (.int .u32 0)) := hb1.drew.set o (.int .u32 0)
  have H2 : StepI B g w (w1.drew.setCell ⟨b, o, none⟩ (.int .u32 0)) (ks ++ [2]) (fun k => k = b) :=
    (H.mono (S' := fun k => k = b) (fun _ _ x => x.elim)).trans (hgt.fr ((Fr.refl w1 (fun k => k = b)).drew.setCell _ _ (fun _ => rfl)) (fun k hk e => hgt.apart hb1 h1 h2 (e ▸ hk))) (fun _ _ x => x)
  clear h hb hb1 hgt H h1 h2 hx hl hbB
  go_wp2_with fail
  refine (bool_store_false _ w1 u hc1 hf1).mono ?_
  rintro e w2 ⟨rfl, rfl⟩
  go_wp2
  go_end0
  exact ⟨rfl, H2, hB⟩

set_option maxHeartbeats 400000 in
theorem b32_true (w : World) : Calls Try.prog 138 #[.bool true] w fun e w' => e = .returned (.int .u32 1) ∧ w = w' := by
  go_enter Try.func138, Try.ntmps138
  go_wp2
  go_ret
  exact ⟨rfl, rfl⟩
set_option maxHeartbeats 400000 in
theorem bool_store_true (a : Addr) (w : World) (u : Value) (hc : w.cell? a = some u) (hf : w.frozen? a = false) :
    Calls Try.prog 121 #[.pointer (some a), .bool true] w fun e w' => e = .returned (.tuple #[]) ∧ w' = w.drew.setCell a (.int .u32 1) := by
  have hc1 : w.drew.cell? a = some u := hc
  have hf1 : w.drew.frozen? a = false := hf
  have hrun := run_call_store (P := Try.prog) Try.func137 (by kernel_rfl) (by kernel_rfl) (by kernel_rfl) (by kernel_rfl) hc1 hf1 (v := .int .u32 1) rfl
  go_enter Try.func121, Try.ntmps121
  go_region_with (go_at_call 138; refine (b32_true _).mono ?_; rintro e w' ⟨rfl, rfl⟩)
  go_end0
  exact ⟨rfl, rfl⟩

set_option maxHeartbeats 400000 in
theorem mark_load_true (B : Nat) (g : Option Nat) (ks : List Int) (b o T : Nat) (xs : List Value) (w : World) (h : GAtI w B g ks) (hbB : B ≤ w.heap.size) (hl : ks.length ≤ 1000000000) (hb : Blk w b T xs) (h1 : T ≠ TT) (h2 : T ≠ ti) (hx : xs[o]? = some (.int .u32 1)) :
    Calls Try.prog 105 #[.pointer (some ⟨b, o, none⟩), gvI g] w fun e w' => e = .returned (.bool true) ∧ StepI B g w w' (ks ++ [1]) (fun _ => False) := by
  go_enter Try.func105, Try.ntmps105
  go_wp2_with fail
  refine (pass_any B g ks 1 w h hbB hl).mono ?_
  rintro e w1 ⟨rfl, H⟩
  have hb1 := H.blk h hb h1 h2 (fun x => x)
  have hgt := H.gate

  have hc1 : w1.cell? ⟨b, o, none⟩ = some (.int .u32 1) := by rw [hb1.cell o]; exact hx
  have hrun := run_call_load_int (P := Try.prog) Try.func142 (by kernel_rfl) (by kernel_rfl) (by kernel_rfl) .u32 (by kernel_rfl) hc1
  clear h hb hb1 hgt h1 h2 hx hl hbB
  go_wp2
  go_ret
  exact ⟨rfl, H⟩

set_option maxHeartbeats 400000 in
theorem mark_loadn_true (b o T : Nat) (xs : List Value) (w : World) (hb : Blk w b T xs) (hx : xs[o]? = some (.int .u32 1)) :
    Calls Try.prog 105 #[.pointer (some ⟨b, o, none⟩), .nilIface] w fun e w' => e = .returned (.bool true) ∧ w = w' := by
  have hc1 : w.cell? ⟨b, o, none⟩ = some (.int .u32 1) := by rw [hb.cell o]; exact hx
  have hrun := run_call_load_int (P := Try.prog) Try.func142 (by kernel_rfl) (by kernel_rfl) (by kernel_rfl) .u32 (by kernel_rfl) hc1
  clear hb hx
  go_enter Try.func105, Try.ntmps105
  go_wp2_with fail
  refine (pass_nil _ w).mono ?_
  rintro e w1 ⟨rfl, rfl⟩
  go_wp2
  go_ret
  exact ⟨rfl, rfl⟩

set_option maxHeartbeats 400000 in
theorem mark_store_true (B : Nat) (g : Option Nat) (ks : List Int) (b o T : Nat) (xs : List Value) (w : World) (h : GAtI w B g ks) (hbB : B ≤ w.heap.size) (hl : ks.length ≤ 1000000000) (hb : Blk w b T xs) (h1 : T ≠ TT) (h2 : T ≠ ti) (u : Value) (hx : xs[o]? = some u) :
    Calls Try.prog 87 #[.pointer (some ⟨b, o, none⟩), gvI g, .bool true] w fun e w' => e = .returned (.tuple #[]) ∧ StepI B g w w' (ks ++ [2]) (fun k => k = b) ∧ Blk w' b T (xs.set o (.int .u32 1)) := by
  go_enter Try.func87, Try.ntmps87
  go_wp2_with fail
  refine (pass_any B g ks 2 w h hbB hl).mono ?_
  rintro e w1 ⟨rfl, H⟩
  have hb1 := H.blk h hb h1 h2 (fun x => x)
  have hgt := H.gate

  have hc1 : w1.cell? ⟨b, o, none⟩ = some u := by rw [hb1.cell o]; exact hx
  have hf1 : w1.frozen? ⟨b, o, none⟩ = false := hb1.free _ rfl
  have hB : Blk (w1.drew.setCell ⟨b, o, none⟩ (.int .u32 1)) b T (xs.set o (.int .u32 1)) := hb1.drew.set o (.int .u32 1)
  have H2 : StepI B g w (w1.drew.setCell ⟨b, o, none⟩ (.int .u32 1)) (ks ++ [2]) (fun k => k = b) :=
    (H.mono (S' := fun k => k = b) (fun _ _ x => x.elim)).trans (hgt.fr ((Fr.refl w1 (fun k => k = b)).drew.setCell _ _ (fun _ => rfl)) (fun k hk e => hgt.apart hb1 h1 h2 (e ▸ hk))) (fun _ _ x => x)
  clear h hb hb1 hgt H h1 h2 hx hl hbB
  go_wp2_with fail
  refine (bool_store_true _ w1 u hc1 hf1).mono ?_
  rintro e w2 ⟨rfl, rfl⟩
  go_wp2
  go_end0
  exact ⟨rfl, H2, hB⟩
end Go.Proofs.Ytphhdmopfmelbaa
