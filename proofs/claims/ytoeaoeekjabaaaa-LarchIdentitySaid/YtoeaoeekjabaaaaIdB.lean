/- cell.Cell[thing]: Swap by a gate, New. -/
import Derived.Test.YtoeaoeekjabaaaaCell
import Derived.Lib.Hide
namespace Go.Proofs.Ytoeaoeekjabaaaa
open Go.RowKit Go.Proofs.YtoeaoeekjabaaaaW.PrintWords
set_option linter.unusedVariables false
set_option linter.unusedSimpArgs false

/-- sync/atomic.SwapPointer of a cell that holds a pointer to a block's head, or nil. -/
theorem run_call_swap_ptr {P : Program} {w : World} {f : FuncId} {fn : Func} (hf : P.funcs[f]? = some fn) (hname : (fn.name == "runtime.NumGoroutine") = false) (hb : fn.body.isNone = true) (hn : Extern.findNext fn = none)
    (he : Extern.find fn = some (Extern.Atomic.swapT .ptr)) {b o T : Nat} {xs : List Value} (hB : Blk w b T xs) {c y : Option Nat} (hc : xs[o]? = some (pv c)) :
    (callFunc f #[.pointer (some ⟨b, o, none⟩), pv y]).run P w = .ok (.value (pv c)) (w.setCell ⟨b, o, none⟩ (pv y)) := by
  have hcell : w.cell? ⟨b, o, none⟩ = some (pv c) := by rw [hB.cell o]; exact hc
  have hz : w.frozen? ⟨b, o, none⟩ = false := hB.free _ rfl
  rw [run_callFunc_extern hf hname hb hn he]
  change (Sem.run P (do
    let a ← asAddr (.pointer (some ⟨b, o, none⟩))
    let old ← Extern.Atomic.read .ptr a
    store a (pv y) .atomic
    pure old) w).andThen _ = _
  simp [Extern.Atomic.read, asAddr, hcell, hz, run_store P w _ (pv y) .atomic rfl, Result.andThen]

set_option maxHeartbeats 400000 in
theorem cell_swap_cellthing (B : Nat) (g : Option Nat) (ks : List Int) (b o T : Nat) (xs : List Value) (w : World) (h : GAtI w B g ks) (hbB : B ≤ w.heap.size) (hl : ks.length ≤ 1000000000) (hb : Blk w b T xs) (h1 : T ≠ TT) (h2 : T ≠ ti) (c p : Option Nat) (hx : xs[o]? = some (pv c)) (kc : PtrTo 39 1 w c) (hp : PtrTo 39 1 w p) :
    Calls Try.prog 20 #[.pointer (some ⟨b, o, none⟩), gvI g, pv p] w fun e w' => e = .returned (pv c) ∧ StepI B g w w' (ks ++ [4]) (fun k => k = b) ∧ Blk w' b T (xs.set o (pv p)) := by
  go_enter Try.func20, Try.ntmps20
  go_wp2_with fail
  refine (pass_any B g ks 4 w h hbB hl).mono ?_
  rintro e w1 ⟨rfl, H⟩
  have hb1 := H.blk h hb h1 h2 (fun x => x)
  have hgt := H.gate
  have hto := fun (x : Option Nat) (w1 : World) (hx : PtrTo 39 1 w1 x) => run_to_unsafe (P := Try.prog) (src := 37) (dst := 58) Try.underlying37 Try.underlying58 size_cellthing (by decide) hx
  have hfr := fun (x : Option Nat) (w1 : World) (hx : PtrTo 39 1 w1 x) => run_from_unsafe (P := Try.prog) (src := 58) (dst := 37) Try.underlying58 Try.underlying37 size_cellthing lies_cellthing hx
  have kc1 := kc.step h H (by decide) (by decide)
  have kc2 : PtrTo 39 1 (w1.setCell ⟨b, o, none⟩ (pv p)) c := fun b' e => by
    obtain ⟨ys, hy, hl⟩ := kc1 b' e
    by_cases hbb : b' = b
    · subst hbb
      exact ⟨_, (hy.inj hb1).1 ▸ hb1.set o (pv p), by rw [List.length_set, ← (hy.inj hb1).2]; exact hl⟩
    · exact ⟨ys, hy.other _ _ hbb, hl⟩
  have hk := hto p w1 (hp.step h H (by decide) (by decide))
  have hk2 := hfr c _ kc2
  clear hto hfr hp kc kc1 kc2
  have hrun := run_call_swap_ptr (P := Try.prog) Try.func33 (by kernel_rfl) (by kernel_rfl) (by kernel_rfl) (by kernel_rfl) hb1 hx (y := p)
  have hB := hb1.set o (pv p)
  have H2 : StepI B g w (w1.setCell ⟨b, o, none⟩ (pv p)) (ks ++ [4]) (fun k => k = b) :=
    (H.mono (S' := fun k => k = b) (fun _ _ x => x.elim)).trans (hgt.fr ((Fr.refl w1 (fun k => k = b)).setCell _ _ (fun _ => rfl)) (fun k hk e => hgt.apart hb1 h1 h2 (e ▸ hk))) (fun _ _ x => x)
  clear h hb hb1 hgt H h1 h2 hx hl hbB
  go_wp2
  go_ret
  exact ⟨rfl, H2, hB⟩

abbrev TCT : Nat := 62
abbrev TTH : Nat := 39
/-- cell.New: a cell of its own that holds p. -/
theorem cell_new_cellthing (w : World) (p : Option Nat) (hp : PtrTo 39 1 w p) :
    Calls Try.prog 16 #[pv p] w fun e w' => ∃ b, e = .returned (.pointer (some ⟨b, 0, none⟩)) ∧ w.heap.size ≤ b ∧ Below w.heap.size w w' ∧ Blk w' b TCT [pv p] := by
  have hb := Blk.new w TCT [.pointer none]
  have hc1 := hb.cell 0
  have hf1 := hb.free ⟨w.heap.size, 0, none⟩ rfl
  simp only [List.getElem?_cons_zero] at hc1
  have hp1 : PtrTo 39 1 (w.alloc (.cells [.pointer none].toArray TCT)) p := fun b e => let ⟨xs, hx, hl⟩ := hp b e; ⟨xs, hx.alloc _, hl⟩
  have hk := run_to_unsafe (P := Try.prog) (src := 37) (dst := 58) Try.underlying37 Try.underlying58 size_cellthing (by decide) hp1
  have hrun := run_call_store (P := Try.prog) Try.func31 (by kernel_rfl) (by kernel_rfl) (by kernel_rfl) (by kernel_rfl) hc1 hf1 (v := pv p) rfl
  have HB := Lib.hid (Blk.new w TCT [pv p])
  have HF := Lib.hid ((Below.refl w.heap.size w).alloc (Nat.le_refl _) (.cells [pv p].toArray TCT))
  clear hb hp hp1 hc1 hf1
  go_enter Try.func16, Try.ntmps16
  go_wp2
  go_end0
  go_wp2
  go_ret
  exact ⟨_, rfl, Nat.le_refl _, HF.out, HB.out⟩
end Go.Proofs.Ytoeaoeekjabaaaa
