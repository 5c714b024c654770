/- Cells, numbers, marks: each access by a gate (nil or a tape). Written by mk.py. -/
import Derived.Test.YtoeaoeekjabaaaaGate
import Derived.Deep.RegionWith
namespace Go.Proofs.Ytoeaoeekjabaaaa
open Go.RowKit Go.Proofs.YtoeaoeekjabaaaaW.PrintWords
abbrev TT : Nat := 65
abbrev ti : Nat := 3
set_option linter.unusedVariables false

theorem lies_cellthing : LiesOne Try.prog 39 1 := by unfold LiesOne; kernel_rfl
theorem size_cellthing : (Try.prog.info? 39).map (fun i => decide (i.size = 0)) = some false := by kernel_rfl

set_option maxHeartbeats 400000 in
theorem cell_load_cellthing (B : Nat) (g : Option Nat) (ks : List Int) (b o T : Nat) (xs : List Value) (w : World) (h : GAtI w B g ks) (hbB : B ≤ w.heap.size) (hl : ks.length ≤ 1000000000) (hb : Blk w b T xs) (h1 : T ≠ TT) (h2 : T ≠ ti) (p : Option Nat) (hx : xs[o]? = some (pv p)) (hp : PtrTo 39 1 w p) :
    Calls Try.prog 18 #[.pointer (some ⟨b, o, none⟩), gvI g] w fun e w' => e = .returned (pv p) ∧ StepI B g w w' (ks ++ [1]) (fun _ => False) := by
  go_enter Try.func18, Try.ntmps18
  go_wp2_with fail
  refine (pass_any B g ks 1 w h hbB hl).mono ?_
  rintro e w1 ⟨rfl, H⟩
  have hb1 := H.blk h hb h1 h2 (fun x => x)
  have hgt := H.gate
  have hto := fun (x : Option Nat) (hx : PtrTo 39 1 w1 x) => run_to_unsafe (P := Try.prog) (src := 37) (dst := 58) Try.underlying37 Try.underlying58 size_cellthing (by decide) hx
  have hfr := fun (x : Option Nat) (hx : PtrTo 39 1 w1 x) => run_from_unsafe (P := Try.prog) (src := 58) (dst := 37) Try.underlying58 Try.underlying37 size_cellthing lies_cellthing hx
  have hk := hfr p (hp.step h H (by decide) (by decide))
  clear hto hfr hp

  have hc1 : w1.cell? ⟨b, o, none⟩ = some (pv p) := by rw [hb1.cell o]; exact hx
  have hrun := run_call_load_ptr (P := Try.prog) Try.func32 (by kernel_rfl) (by kernel_rfl) (by kernel_rfl) (by kernel_rfl) hc1
  clear h hb hb1 hgt h1 h2 hx hl hbB
  go_wp2
  go_ret
  exact ⟨rfl, H⟩

set_option maxHeartbeats 400000 in
theorem cell_store_cellthing (B : Nat) (g : Option Nat) (ks : List Int) (b o T : Nat) (xs : List Value) (w : World) (h : GAtI w B g ks) (hbB : B ≤ w.heap.size) (hl : ks.length ≤ 1000000000) (hb : Blk w b T xs) (h1 : T ≠ TT) (h2 : T ≠ ti) (p : Option Nat) (u : Value) (hx : xs[o]? = some u) (hp : PtrTo 39 1 w p) :
    Calls Try.prog 19 #[.pointer (some ⟨b, o, none⟩), gvI g, pv p] w fun e w' => e = .returned (.tuple #[]) ∧ StepI B g w w' (ks ++ [2]) (fun k => k = b) ∧ Blk w' b T (xs.set o (pv p)) := by
  go_enter Try.func19, Try.ntmps19
  go_wp2_with fail
  refine (pass_any B g ks 2 w h hbB hl).mono ?_
  rintro e w1 ⟨rfl, H⟩
  have hb1 := H.blk h hb h1 h2 (fun x => x)
  have hgt := H.gate
  have hto := fun (x : Option Nat) (hx : PtrTo 39 1 w1 x) => run_to_unsafe (P := Try.prog) (src := 37) (dst := 58) Try.underlying37 Try.underlying58 size_cellthing (by decide) hx
  have hfr := fun (x : Option Nat) (hx : PtrTo 39 1 w1 x) => run_from_unsafe (P := Try.prog) (src := 58) (dst := 37) Try.underlying58 Try.underlying37 size_cellthing lies_cellthing hx
  have hk := hto p (hp.step h H (by decide) (by decide))
  clear hto hfr hp

  have hc1 : w1.cell? ⟨b, o, none⟩ = some u := by rw [hb1.cell o]; exact hx
  have hf1 : w1.frozen? ⟨b, o, none⟩ = false := hb1.free _ rfl
  have hrun := run_call_store (P := Try.prog) Try.func31 (by kernel_rfl) (by kernel_rfl) (by kernel_rfl) (by kernel_rfl) hc1 hf1 (v := pv p) rfl
  have hB := hb1.set o (pv p)
  have H2 : StepI B g w (w1.setCell ⟨b, o, none⟩ (pv p)) (ks ++ [2]) (fun k => k = b) :=
    (H.mono (S' := fun k => k = b) (fun _ _ x => x.elim)).trans (hgt.fr ((Fr.refl w1 (fun k => k = b)).setCell _ _ (fun _ => rfl)) (fun k hk e => hgt.apart hb1 h1 h2 (e ▸ hk))) (fun _ _ x => x)
  clear h hb hb1 hgt H h1 h2 hx hl hbB
  go_wp2
  go_end0
  go_wp2
  go_end0
  exact ⟨rfl, H2, hB⟩

set_option maxHeartbeats 400000 in
theorem cell_loadn_cellthing (b o T : Nat) (xs : List Value) (w : World) (hb : Blk w b T xs) (p : Option Nat) (hx : xs[o]? = some (pv p)) (hp : PtrTo 39 1 w p) :
    Calls Try.prog 18 #[.pointer (some ⟨b, o, none⟩), .nilIface] w fun e w' => e = .returned (pv p) ∧ w = w' := by
  have hc1 : w.cell? ⟨b, o, none⟩ = some (pv p) := by rw [hb.cell o]; exact hx
  have hrun := run_call_load_ptr (P := Try.prog) Try.func32 (by kernel_rfl) (by kernel_rfl) (by kernel_rfl) (by kernel_rfl) hc1
  have hto := fun (x : Option Nat) (hx : PtrTo 39 1 w x) => run_to_unsafe (P := Try.prog) (src := 37) (dst := 58) Try.underlying37 Try.underlying58 size_cellthing (by decide) hx
  have hfr := fun (x : Option Nat) (hx : PtrTo 39 1 w x) => run_from_unsafe (P := Try.prog) (src := 58) (dst := 37) Try.underlying58 Try.underlying37 size_cellthing lies_cellthing hx
  have hk := hfr p hp
  clear hto hfr hp
  clear hb hx
  go_enter Try.func18, Try.ntmps18
  go_wp2_with fail
  refine (pass_nil _ w).mono ?_
  rintro e w1 ⟨rfl, rfl⟩
  go_wp2
  go_ret
  exact ⟨rfl, rfl⟩

set_option maxHeartbeats 400000 in
theorem cell_cas_cellthing (B : Nat) (g : Option Nat) (ks : List Int) (b o T : Nat) (xs : List Value) (w : World) (h : GAtI w B g ks) (hbB : B ≤ w.heap.size) (hl : ks.length ≤ 1000000000) (hb : Blk w b T xs) (h1 : T ≠ TT) (h2 : T ≠ ti) (c x y : Option Nat) (hx : xs[o]? = some (pv c)) (kc : PtrTo 39 1 w c) (kx : PtrTo 39 1 w x) (ky : PtrTo 39 1 w y) :
    Calls Try.prog 22 #[.pointer (some ⟨b, o, none⟩), gvI g, pv x, pv y] w fun e w' => e = .returned (.bool (decide (c = x))) ∧ StepI B g w w' (ks ++ [5]) (fun k => k = b) ∧ Blk w' b T (if c = x then xs.set o (pv y) else xs) := by
  by_cases e : c = x
  all_goals
    first | rw [if_pos e, decide_eq_true e] | rw [if_neg e, decide_eq_false e]
    go_enter Try.func22, Try.ntmps22
    go_wp2_with fail
    refine (pass_any B g ks 5 w h hbB hl).mono ?_
    rintro e_ w1 ⟨rfl, H⟩
    have hb1 := H.blk h hb h1 h2 (fun x => x)
    have hgt := H.gate
    have hcas := run_call_cas_ptr (P := Try.prog) Try.func34 (by kernel_rfl) (by kernel_rfl) (by kernel_rfl) (by kernel_rfl) hb1 hx (kc.step h H (by decide) (by decide)).known (kx.step h H (by decide) (by decide)).known (y := hd y)
    have hto := fun (x : Option Nat) (hx : PtrTo 39 1 w1 x) => run_to_unsafe (P := Try.prog) (src := 37) (dst := 58) Try.underlying37 Try.underlying58 size_cellthing (by decide) hx
    have hfr := fun (x : Option Nat) (hx : PtrTo 39 1 w1 x) => run_from_unsafe (P := Try.prog) (src := 58) (dst := 37) Try.underlying58 Try.underlying37 size_cellthing lies_cellthing hx
    have hkx := hto x (kx.step h H (by decide) (by decide))
    have hky := hto y (ky.step h H (by decide) (by decide))
    clear hto hfr
    first | rw [if_pos e, decide_eq_true e] at hcas | rw [if_neg e, decide_eq_false e] at hcas
  · have hB := hb1.set o (pv y)
    have H2 : StepI B g w (w1.setCell ⟨b, o, none⟩ (pv y)) (ks ++ [5]) (fun k => k = b) :=
      (H.mono (S' := fun k => k = b) (fun _ _ x => x.elim)).trans (hgt.fr ((Fr.refl w1 (fun k => k = b)).setCell _ _ (fun _ => rfl)) (fun k hk e => hgt.apart hb1 h1 h2 (e ▸ hk))) (fun _ _ x => x)
    clear h hb hb1 hgt H kc kx ky e h1 h2 hx hl hbB
    go_wp2
    go_ret
    exact ⟨rfl, H2, hB⟩
  · have H2 : StepI B g w w1 (ks ++ [5]) (fun k => k = b) := H.mono (fun _ _ x => x.elim)
    have hB := hb1
    clear h hb hb1 hgt H kc kx ky e h1 h2 hx hl hbB
    go_wp2
    go_ret
    exact ⟨rfl, H2, hB⟩
end Go.Proofs.Ytoeaoeekjabaaaa
