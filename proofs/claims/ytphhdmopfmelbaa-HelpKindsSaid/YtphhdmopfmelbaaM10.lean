/- Joined texts: Ref13G Grow GrowB Ref02 Ref13D. -/
import Derived.Test.YtphhdmopfmelbaaM1
import Derived.Test.YtphhdmopfmelbaaM5
import Derived.Test.YtphhdmopfmelbaaM6
import Derived.Test.YtphhdmopfmelbaaM8
import Derived.Test.YtphhdmopfmelbaaM9
import Derived.Test.YtphhdmopfmelbaaWInvWords
import Derived.Lib.Hide
import Derived.ArgAppend
import Derived.Deep.Upon
import Derived.BigQuiet
import Derived.Deep.QuietTactic

/- larchref13: Check. -/
namespace Go.Proofs.Ytphhdmopfmelbaa
open Go.RowKit Go.Proofs.YtphhdmopfmelbaaW.PrintWords
set_option linter.unusedVariables false
set_option linter.unusedSimpArgs false

set_option maxHeartbeats 8000000 in
set_option maxRecDepth 100000 in
theorem ref13_Check (w : World) (v : WV) (d : WD) (A : Option Addr) (c : Nat) (l : List PX) (hv : v.Reads w d) (hp : PlansAt w A l) (hl : d.fields.length < 1000000000000000) (hl3 : d.states.length < 1000000000000000) (hr : ∀ r ∈ d.fields, r.length < 1000000000000000) (hl4 : l.length < 1000000000000000) (hl5 : ∀ x ∈ l, x.p.V.length < 1000000000000000) :
    Calls Try.prog 28 #[v.val d, .slice A l.length c] w fun e w' => e = .returned (.int .i64 (chkH d (l.map PX.p))) ∧ Below w.heap.size w w' := by
  refine calls_hide fun Q HQ => ?_
  have HQ' := Lib.hid HQ
  have HV := Lib.hid hv
  have HP := Lib.hid hp
  have HR := Lib.hid hr
  have HL5 := Lib.hid hl5
  have HBA := Lib.hid ((Below.refl w.heap.size w).alloc (Nat.le_refl _) (.cells (v.cells d).toArray TRW3))
  have HB1 := Lib.hid (Blk.new w TRW3 (v.cells d))
  clear HQ hv hr hp hl5
  have hb0 := bg1_zero d
  have hcases : (d.fields.length > 64 ∧ bg1 d 0 = true) ∨ (¬ d.fields.length > 64 ∧ d.states.length > 64 ∧ bg1 d 0 = true) ∨ (¬ d.fields.length > 64 ∧ ¬ d.states.length > 64 ∧ bg1 d 0 = false) := by
    by_cases h0 : d.fields.length > 64
    · exact .inl ⟨h0, by rw [hb0]; simp [h0]⟩
    · by_cases h1 : d.states.length > 64
      · exact .inr (.inl ⟨h0, h1, by rw [hb0]; simp [h1]⟩)
      · exact .inr (.inr ⟨h0, h1, by rw [hb0]; simp [h0, h1]⟩)
  clear hb0
  rcases hcases with ⟨h0, hb⟩ | ⟨h0, h1, hb⟩ | ⟨h0, h1, hb⟩
  all_goals
    have HB0 := Lib.hid hb
    clear hb
    go_enter Try.func28, Try.ntmps28
    go_wp2
    go_loopw [6, 5] (fun k b wr => ∃ j : Nat, j ≤ d.fields.length ∧ k = .int .i64 j ∧ b = .bool (bg1 d j) ∧ Below w.heap.size w wr ∧ Blk wr w.heap.size TRW3 (v.cells d)) (fun k _ _ => d.fields.length - (intOf k).toNat)
    case atStart => exact ⟨0, Nat.zero_le _, rfl, by rw [HB0.out] <;> first | rfl | (simp <;> omega), HBA.out, HB1.out⟩
    case round =>
      obtain ⟨j, hj, rfl, rfl, hb, hk⟩ := hrel
      have HB := Lib.hid hb
      have HK := Lib.hid hk
      have hc0 : wr.cell? ⟨w.heap.size, 0, none⟩ = some (.slice v.A0 d.fields.length v.c0) := HK.out.cell 0
      clear hb hk
      by_cases hlt : j < d.fields.length
      · obtain ⟨ad, hA, A', c', hr0, _, _⟩ := row_at HV.out.h0 hlt
        have hr1 := pw_cell_below HB.out hr0
        have hrl := HR.out _ (List.getElem_mem hlt)
        have HBS := Lib.hid (bg1_step d j hlt)
        generalize d.fields[j] = row at *
        obtain ⟨A0, c0, A1, c1, A2, c2, A3, c3, A4, c4⟩ := v
        simp only at hA hc0
        subst hA
        clear hr0
        cases hbj : bg1 d j
        · have hbs := HBS.out
          rw [hbj, Bool.false_or] at hbs
          have HBS2 := Lib.hid hbs
          clear hbs
          go_wp2
          go_roundw
          case rel => exact ⟨j + 1, by omega, by go_num, by rw [HBS2.out]; exact congrArg Value.bool (decide_eq_decide.2 (by omega)), HB.out, HK.out⟩
          case measure => simp [intOf]; omega
        · go_wp2
          go_roundw
          case rel => exact ⟨j + 1, by omega, by go_num, by rw [HBS.out, hbj]; rfl, HB.out, HK.out⟩
          case measure => simp [intOf]; omega
      · have hje : j = d.fields.length := by omega
        subst hje
        clear hlt hj
        have HZ := Lib.hid (bg2_zero d l)
        go_wp2
        clear hc0
        go_loopw [7, 5] (fun k b wr => ∃ j : Nat, j ≤ l.length ∧ k = .int .i64 j ∧ b = .bool (bg2 d l j) ∧ Below w.heap.size w wr ∧ Blk wr w.heap.size TRW3 (v.cells d)) (fun k _ _ => l.length - (intOf k).toNat)
        case atStart => exact ⟨0, Nat.zero_le _, rfl, by rw [HZ.out], HB.out, HK.out⟩
        case round =>
          clear HB HK HZ
          obtain ⟨j, hj, rfl, rfl, hb, hk⟩ := hrel
          have HB := Lib.hid hb
          have HK := Lib.hid hk
          clear hb hk
          by_cases hlt : j < l.length
          · obtain ⟨pb, po, hA, p0, p1, p2, p3, p4, p5, p6⟩ := HP.out.at_ hlt
            have q0 := pw_cell_below HB.out p0
            have q1 := pw_cell_below HB.out p1
            have q2 := pw_cell_below HB.out p2
            have q3 := pw_cell_below HB.out p3
            have q4 := pw_cell_below HB.out p4
            have q5 := pw_cell_below HB.out p5
            have q6 := pw_cell_below HB.out p6
            have hrl := HL5.out _ (List.getElem_mem hlt)
            have HBS := Lib.hid (bg2_step d l j hlt)
            clear p0 p1 p2 p3 p4 p5 p6
            generalize l[j] = x at *
            obtain ⟨p, B0, k0, B1, k1, B2, k2⟩ := x
            simp only at q0 q1 q2 q3 q4 q5 q6 hrl
            subst hA
            cases hbj : bg2 d l j
            · have hbs := HBS.out
              rw [hbj, Bool.false_or] at hbs
              have HBS2 := Lib.hid hbs
              clear hbs
              go_wp2
              go_roundw
              case rel => exact ⟨j + 1, by omega, by go_num, by rw [HBS2.out]; exact congrArg Value.bool (decide_eq_decide.2 (by simp only; omega)), HB.out, HK.out⟩
              case measure => simp [intOf]; omega
            · go_wp2
              go_roundw
              case rel => exact ⟨j + 1, by omega, by go_num, by rw [HBS.out, hbj]; rfl, HB.out, HK.out⟩
              case measure => simp [intOf]; omega
          · have hje : j = l.length := by omega
            subst hje
            clear hlt hj
            cases hbj : bg2 d l l.length
            case true =>
              have hs := chk_big hbj
              rw [hs] at HQ'
              go_wp2
              exact HQ'.out _ _ ⟨rfl, HB.out⟩
            try exact absurd (bg_up HB0.out l.length) (by rw [hbj]; simp)
            all_goals
              have HBJ := Lib.hid hbj
              clear hbj
              have hk0 : wr.cell? ⟨w.heap.size, 0, none⟩ = some (.slice v.A0 d.fields.length v.c0) := HK.out.cell 0
              have hk1 : wr.cell? ⟨w.heap.size, 1, none⟩ = some (.slice v.A1 d.infos.length v.c1) := HK.out.cell 1
              have hk2 : wr.cell? ⟨w.heap.size, 2, none⟩ = some (.slice v.A2 d.marks.length v.c2) := HK.out.cell 2
              have hk3 : wr.cell? ⟨w.heap.size, 3, none⟩ = some (.slice v.A3 d.states.length v.c3) := HK.out.cell 3
              have hk4 : wr.cell? ⟨w.heap.size, 4, none⟩ = some (.slice v.A4 d.frozen.length v.c4) := HK.out.cell 4
              have HVr := Lib.hid (HV.out.below HB.out)
              have HG := Lib.hid (ref13_Good wr v d HVr.out hl hl3 HR.out)
              have hbf : bg2 d l l.length = false := HBJ.out
              clear hbf
              go_wp2_with fail
              refine HG.out.mono ?_
              rintro e w1 ⟨r, rfl, hri, hb1⟩
              have HB1' := Lib.hid (HB.out.trans (hb1.mono HB.out.size))
              have HK1 := Lib.hid (HK.out.below hb1 HK.out.lt)
              have HRI := Lib.hid hri
              clear hri hb1 HG HB HK hk0 hk1 hk2 hk3 hk4
              have hk3 : w1.cell? ⟨w.heap.size, 3, none⟩ = some (.slice v.A3 d.states.length v.c3) := HK1.out.cell 3
              cases r with
              | false =>
                have hs := chk_form HBJ.out (.inl (fun h => by have := HRI.out.2 h; cases this))
                rw [hs] at HQ'
                go_wp2
                exact HQ'.out _ _ ⟨rfl, HB1'.out⟩
              | true =>
                by_cases hll : l.length = d.states.length
                case neg =>
                  have hs := chk_form HBJ.out (.inr hll)
                  have hne : ((l.length : Int) != (d.states.length : Int)) = true := by rw [bne_iff_ne]; omega
                  rw [hs] at HQ'
                  clear hs
                  go_wp2
                  exact HQ'.out _ _ ⟨rfl, HB1'.out⟩
                have HLL := Lib.hid hll
                have hnn : ((l.length : Int) != (d.states.length : Int)) = false := by rw [bne_eq_false_iff_eq]; omega
                have HNN := Lib.hid hnn
                have HYF := Lib.hid (HRI.out.1 rfl)
                clear HRI
                go_wp2
                clear hll hnn hk3
                go_loopw [8] (fun k wr => ∃ j : Nat, j ≤ l.length ∧ k = .int .i64 j ∧ (∀ x ∈ l.take j, x.p.Fits d) ∧ Below w.heap.size w wr ∧ Blk wr w.heap.size TRW3 (v.cells d)) (fun k _ => l.length - (intOf k).toNat)
                case atStart => exact ⟨0, Nat.zero_le _, by simp, by simp, HB1'.out, HK1.out⟩
                case round =>
                  clear HB1' HK1
                  obtain ⟨j, hj, rfl, hfi, hb, hk⟩ := hrel
                  have HB := Lib.hid hb
                  have HK := Lib.hid hk
                  have HFI := Lib.hid hfi
                  clear hb hk hfi
                  have hll := HLL.out
                  by_cases hlt : j < l.length
                  · obtain ⟨pb, po, hA, p0, p1, p2, p3, p4, p5, p6⟩ := HP.out.at_ hlt
                    have q0 := pw_cell_below HB.out p0
                    have q1 := pw_cell_below HB.out p1
                    have q2 := pw_cell_below HB.out p2
                    have q3 := pw_cell_below HB.out p3
                    have q4 := pw_cell_below HB.out p4
                    have q5 := pw_cell_below HB.out p5
                    have q6 := pw_cell_below HB.out p6
                    have hk0 : wr.cell? ⟨w.heap.size, 0, none⟩ = some (.slice v.A0 d.fields.length v.c0) := HK.out.cell 0
                    have hk1 : wr.cell? ⟨w.heap.size, 1, none⟩ = some (.slice v.A1 d.infos.length v.c1) := HK.out.cell 1
                    have hk2 : wr.cell? ⟨w.heap.size, 2, none⟩ = some (.slice v.A2 d.marks.length v.c2) := HK.out.cell 2
                    have hk3 : wr.cell? ⟨w.heap.size, 3, none⟩ = some (.slice v.A3 d.states.length v.c3) := HK.out.cell 3
                    have hk4 : wr.cell? ⟨w.heap.size, 4, none⟩ = some (.slice v.A4 d.frozen.length v.c4) := HK.out.cell 4
                    have hrl := HL5.out _ (List.getElem_mem hlt)
                    have HXR := Lib.hid (HP.out.reads _ (List.getElem_mem hlt))
                    have HMx := Lib.hid (List.getElem_mem hlt)
                    have HST := Lib.hid (all_take (P := fun x : PX => x.p.Fits d) hlt HFI.out)
                    clear p0 p1 p2 p3 p4 p5 p6 HFI
                    generalize l[j] = x at *
                    obtain ⟨p, B0, k0, B1, k1, B2, k2⟩ := x
                    simp only at q0 q1 q2 q3 q4 q5 q6 hrl
                    have HVr := Lib.hid (fun w' (hb : Below w.heap.size w w') => HV.out.below hb)
                    have HXr := Lib.hid (fun w' (hb : Below w.heap.size w w') => HXR.out.below hb)
                    subst hA
                    have HB2 := Lib.hid HB.out.drew
                    have HK2 := Lib.hid HK.out.drew
                    have HFT := Lib.hid (ref13_fits wr.drew v d ⟨p, B0, k0, B1, k1, B2, k2⟩ (HVr.out _ HB2.out) (HXr.out _ HB2.out) hl hl3 HR.out hrl)
                    go_wp2_with fail
                    refine wp_region_still_tail 5 (by kernel_rfl) (by kernel_rfl) ?_
                    simp only [List.take_succ_cons, List.take_zero, List.drop_succ_cons, List.drop_zero]
                    iterate 5 still_step
                    refine wpStill_nil ?_
                    change wpList _ _ _ _ _ wr.drew
                    go_wp2_with fail
                    refine HFT.out.mono ?_
                    rintro e w2 ⟨r, rfl, hri, hb1⟩
                    have HB3 := Lib.hid (HB2.out.trans (hb1.mono HB2.out.size))
                    have HK3 := Lib.hid (HK2.out.below hb1 HK2.out.lt)
                    have HRI := Lib.hid hri
                    clear hri hb1 HFT HB2 HK2 q0 q1 q2 q3 q4 q5 q6 hk0 hk1 hk2 hk3 hk4 HVr HXr
                    cases r with
                    | false =>
                      have hs := chk_not HBJ.out HYF.out HLL.out HMx.out (fun h => by have := HRI.out.2 h; cases this)
                      rw [hs] at HQ'
                      clear hs
                      go_wp2
                      exact HQ'.out _ _ ⟨rfl, HB3.out⟩
                    | true =>
                      have HT := Lib.hid (HST.out (HRI.out.1 rfl))
                      clear HST HRI
                      go_wp2
                      go_roundw
                      case rel => exact ⟨j + 1, by omega, by go_num, HT.out, HB3.out, HK3.out⟩
                      case measure => simp [intOf]; omega
                  · have hje : j = l.length := by omega
                    subst hje
                    have hs := chk_fits HBJ.out HYF.out HLL.out (all_len HFI.out)
                    rw [hs] at HQ'
                    clear hs
                    go_wp2
                    exact HQ'.out _ _ ⟨rfl, HB.out⟩
end Go.Proofs.Ytphhdmopfmelbaa

/-
  A region that draws its order, of which all operations but a last one make memory alone: each is shown once. No program in sight.
-/
namespace Go.Proofs.Ytphhdmopfmelbaa
open Go.RowKit Go.Proofs.YtphhdmopfmelbaaW.PrintWords Go.Proofs.YtphhdmopfmelbaaW.PrintLast
set_option linter.unusedVariables false
set_option linter.unusedSimpArgs false

/-- All that each operation waits for, as bits. -/
def bitsOf (T : List (List Nat × List Nat)) : List Nat := T.foldl (fun acc r => acc ++ [r.1.foldl (fun m n => m ||| (1 <<< n) ||| acc.getD n 0) 0]) []
def setV (V : Nat → Value) (i : Nat) (v : Value) : Nat → Value := fun j => if j = i then v else V j
theorem setV_self (V : Nat → Value) (i : Nat) (v : Value) : setV V i v i = v := by simp [setV]
theorem setV_ne (V : Nat → Value) {i j : Nat} (v : Value) (h : j ≠ i) : setV V i v j = V j := by simp [setV, h]
/-- The growing operations with where their values go. -/
def vrows (D : List (Nat × Tmp)) (V : Nat → Value) : List (Nat × Tmp × Value) := D.map fun e => (e.1, e.2, V e.1)
theorem vrows_set {D : List (Nat × Tmp)} (hD : (D.map (·.1)).Nodup) (V : Nat → Value) {k i : Nat} {t : Tmp} (hk : D[k]? = some (i, t)) (v : Value) : (vrows D V).set k (i, t, v) = vrows D (setV V i v) := by
  apply List.ext_getElem?
  intro j
  by_cases hj : j = k
  · subst hj
    have hl := (List.getElem?_eq_some_iff.1 hk).1
    rw [List.getElem?_set_self (by simpa [vrows] using hl)]
    simp [vrows, hk, setV_self]
  · rw [List.getElem?_set_ne (Ne.symm hj)]
    simp only [vrows, List.getElem?_map]
    cases he : D[j]? with
    | none => rfl
    | some e =>
      have : e.1 ≠ i := fun h => hj (by
        have h1 : (D.map (·.1))[j]? = some i := by simp [he, h]
        have h2 : (D.map (·.1))[k]? = some i := by simp [hk]
        obtain ⟨l1, e1⟩ := List.getElem?_eq_some_iff.1 h1
        obtain ⟨l2, e2⟩ := List.getElem?_eq_some_iff.1 h2
        exact (List.getElem_inj hD).1 (e1.trans e2.symm))
      simp [setV_ne _ _ this]

/-- The block of what an owner holds. -/
def ob (ow : Nat → Bool) (V : Nat → Value) (i : Nat) : Option Nat := if ow i = true then (V i).ownBlock else none
section
variable {P : Program} {ops : Array Oper} {Q : Exit → Act → World → Prop} {md : Region.Mode} {T : Bool × List (List Nat × List Nat)} {ow : Nat → Bool}
/-- What holds while they grow. -/
structure GrowI (ow : Nat → Bool) (a0 : Act) (w0 : World) (B : List Nat) (D : List (Nat × Tmp)) (ch : Nat → Nat) (Pr : Nat → (Nat → Value) → World → Prop) (b : Nat → Bool) (a : Act) (w : World) (V : Nat → Value) : Prop where
  frame : a = putSel a0 b (vrows D V)
  below : Below w0.heap.size w0 w
  pr : ∀ e ∈ D, b e.1 = true → Pr e.1 V w
  lt : ∀ e ∈ D, b e.1 = true → ∀ k, ob ow V e.1 = some k → w0.heap.size ≤ k ∧ k < w.heap.size
  apart : ∀ e ∈ D, ∀ e' ∈ D, b e.1 = true → b e'.1 = true → ch e.1 ≠ ch e'.1 → ∀ k, ob ow V e.1 = some k → ob ow V e'.1 ≠ some k
/-- One operation's step. -/
def GrowStep (ow : Nat → Bool) (P : Program) (ops : Array Oper) (Q : Exit → Act → World → Prop) (a0 : Act) (w0 : World) (B : List Nat) (D : List (Nat × Tmp)) (ch : Nat → Nat) (Pr : Nat → (Nat → Value) → World → Prop) (e : Nat × Tmp) : Prop :=
  ∀ V a w, (∀ e' ∈ D, (B.getD e.1 0).testBit e'.1 = true → a.tmps[e'.2]? = some (V e'.1) ∧ Pr e'.1 V w ∧ ∀ k, ob ow V e'.1 = some k → w0.heap.size ≤ k ∧ k < w.heap.size) → (∀ s, (∀ e' ∈ D, e'.2 ≠ s) → a.tmps[s]? = a0.tmps[s]?) → Below w0.heap.size w0 w →
    ∃ oi, ops[e.1]? = some oi ∧ oi.dst = some e.2 ∧ ∀ K : Act → World → Prop,
      Shut (∀ v w', Below w.heap.size w w' → Pr e.1 (setV V e.1 v) w' → (ow e.1 = true → ∀ k, v.ownBlock = some k → k < w'.heap.size ∧ (w.heap.size ≤ k ∨ ∃ e' ∈ D, (B.getD e.1 0).testBit e'.1 = true ∧ ch e'.1 = ch e.1 ∧ ob ow V e'.1 = some k)) → K (a.put (some e.2) v) w') →
      if Region.wanted oi (yielded ops a.tmps) = true then Oper.wp P oi a w K Q else K (a.put oi.dst undef) w

theorem putSel_at {b : Nat → Bool} {D : List (Nat × Tmp)} (hD2 : (D.map (·.2)).Nodup) {V : Nat → Value} {a0 : Act} {i : Nat} {t : Tmp} (he : (i, t) ∈ D) (hb : b i = true) (ht : t < a0.tmps.size) : (putSel a0 b (vrows D V)).tmps[t]? = some (V i) := by
  obtain ⟨k, hk⟩ := List.getElem?_of_mem he
  refine putSel_on (e := (i, t, V i)) k (by simp [vrows, hk]) ?_ hb (by rw [Nat.ble_eq]; exact ht)
  rw [List.all_eq_true]
  intro x hx
  obtain ⟨j, hj⟩ := List.getElem?_of_mem hx
  rw [List.getElem?_drop] at hj
  simp only [vrows, List.getElem?_map] at hj
  obtain ⟨y, hy, rfl⟩ := Option.map_eq_some_iff.1 hj
  simp only [Bool.not_eq_true', beq_eq_false_iff_ne]
  intro h
  have h1 : (D.map (·.2))[k + 1 + j]? = some t := by simp [hy, h]
  have h2 : (D.map (·.2))[k]? = some t := by simp [hk]
  obtain ⟨l1, e1⟩ := List.getElem?_eq_some_iff.1 h1
  obtain ⟨l2, e2⟩ := List.getElem?_eq_some_iff.1 h2
  have := (List.getElem_inj hD2).1 (e1.trans e2.symm)
  omega
theorem putSel_out {b : Nat → Bool} {D : List (Nat × Tmp)} {V : Nat → Value} {a0 : Act} {s : Tmp} (h : ∀ e ∈ D, e.2 ≠ s) : (putSel a0 b (vrows D V)).tmps[s]? = a0.tmps[s]? := by
  refine putSel_off ?_
  rw [List.all_eq_true]
  intro x hx
  obtain ⟨e, he, rfl⟩ := List.mem_map.1 hx
  simpa using h e he
theorem grow_step {a0 : Act} {w0 : World} {B : List Nat} {D : List (Nat × Tmp)} {ch : Nat → Nat} {Pr : Nat → (Nat → Value) → World → Prop} {b : Nat → Bool} {a : Act} {w : World} {V : Nat → Value}
    (hD : (D.map (·.1)).Nodup) (hD2 : (D.map (·.2)).Nodup) (hsz : ∀ e ∈ D, e.2 < a0.tmps.size)
    (dep : ∀ e ∈ D, ∀ V V' w, (∀ j, (j = e.1 ∨ (B.getD e.1 0).testBit j = true) → V j = V' j) → Pr e.1 V w → Pr e.1 V' w) (stab : ∀ e ∈ D, ∀ V w w', Pr e.1 V w → Below w.heap.size w w' → Pr e.1 V w')
    {e : Nat × Tmp} (he : e ∈ D) (hs : GrowStep ow P ops Q a0 w0 B D ch Pr e) (h : GrowI ow a0 w0 B D ch Pr b a w V) (hb : b e.1 = false)
    (hon : ∀ e' ∈ D, (B.getD e.1 0).testBit e'.1 = true → b e'.1 = true) (hoff : ∀ e' ∈ D, (B.getD e'.1 0).testBit e.1 = true → b e'.1 = false) :
    ∃ oi, ops[e.1]? = some oi ∧ ∀ K : Act → World → Prop, Shut (∀ a' w', (∃ V', GrowI ow a0 w0 B D ch Pr (up b e.1) a' w' V') → K a' w') → if Region.wanted oi (yielded ops a.tmps) = true then Oper.wp P oi a w K Q else K (a.put oi.dst undef) w := by
  obtain ⟨oi, h1, h2, h3⟩ := hs V a w (fun e' he' hbit => by
      have hb' := hon e' he' hbit
      exact ⟨by rw [h.frame]; exact putSel_at hD2 he' hb' (hsz e' he'), h.pr e' he' hb', h.lt e' he' hb'⟩) (fun s hs => by rw [h.frame]; exact putSel_out hs) h.below
  refine ⟨oi, h1, fun K hK => h3 K fun v w' hbl hpr hown => hK _ _ ⟨setV V e.1 v, ?_⟩⟩
  have hw0 : w0.heap.size ≤ w.heap.size := h.below.size
  have hne : ∀ e' ∈ D, b e'.1 = true → e'.1 ≠ e.1 := fun e' _ hb' h => by rw [h, hb] at hb'; cases hb'
  have hup : ∀ e' ∈ D, up b e.1 e'.1 = true → e' = e ∨ (e'.1 ≠ e.1 ∧ b e'.1 = true) := fun e' he' hu => by
    by_cases hh : e'.1 = e.1
    · left
      obtain ⟨k, hk⟩ := List.getElem?_of_mem he
      obtain ⟨k', hk'⟩ := List.getElem?_of_mem he'
      have g1 : (D.map (·.1))[k]? = some e.1 := by simp [hk]
      have g2 : (D.map (·.1))[k']? = some e.1 := by simp [hk', hh]
      obtain ⟨l1, e1⟩ := List.getElem?_eq_some_iff.1 g1
      obtain ⟨l2, e2⟩ := List.getElem?_eq_some_iff.1 g2
      have := (List.getElem_inj hD).1 (e1.trans e2.symm)
      subst this
      rw [hk] at hk'
      exact (Option.some.inj hk').symm
    · exact .inr ⟨hh, by rwa [up_ne hh] at hu⟩
  have hself : ∀ k, ob ow (setV V e.1 v) e.1 = some k → ow e.1 = true ∧ v.ownBlock = some k := fun k hk => by
    unfold ob at hk
    rw [setV_self] at hk
    split at hk
    · exact ⟨‹_›, hk⟩
    · cases hk
  have hother : ∀ j, j ≠ e.1 → ob ow (setV V e.1 v) j = ob ow V j := fun j hj => by unfold ob; rw [setV_ne V v hj]
  have hownlt : ow e.1 = true → ∀ k, v.ownBlock = some k → w0.heap.size ≤ k ∧ k < w'.heap.size := fun ho k hk => by
    obtain ⟨hlt, hx⟩ := hown ho k hk
    refine ⟨?_, hlt⟩
    rcases hx with hx | ⟨e', he', hbit, _, hk'⟩
    · omega
    · exact (h.lt e' he' (hon e' he' hbit) k hk').1
  have hap : ow e.1 = true → ∀ e' ∈ D, b e'.1 = true → ch e.1 ≠ ch e'.1 → ∀ k, v.ownBlock = some k → ob ow V e'.1 ≠ some k := fun ho e' he' hb' hch k hk hk' => by
    rcases (hown ho k hk).2 with hx | ⟨e2, he2, hbit, hc2, hk2⟩
    · have := (h.lt e' he' hb' k hk').2; omega
    · exact h.apart e2 he2 e' he' (hon e2 he2 hbit) hb' (by rw [hc2]; exact hch) k hk2 hk'
  refine ⟨?_, h.below.trans (hbl.mono hw0), fun e' he' hu => ?_, fun e' he' hu k hk => ?_, fun e' he' e2 he2 hu hu2 hch k hk => ?_⟩
  · rw [h.frame]
    obtain ⟨k, hk⟩ := List.getElem?_of_mem he
    refine putSel_upk (v0 := V e.1) k hb (by simp [vrows, hk]) (vrows_set hD V hk v) ?_
    rw [List.all_eq_true]
    intro x hx
    have key : ∀ j, j ≠ k → ∀ y, D[j]? = some y → (!(y.1 == e.1) && !(y.2 == e.2)) = true := fun j hj y hy => by
      simp only [Bool.and_eq_true, Bool.not_eq_true', beq_eq_false_iff_ne]
      constructor
      · intro hh
        have g1 : (D.map (·.1))[k]? = some e.1 := by simp [hk]
        have g2 : (D.map (·.1))[j]? = some e.1 := by simp [hy, hh]
        obtain ⟨l1, e1⟩ := List.getElem?_eq_some_iff.1 g1
        obtain ⟨l2, e2⟩ := List.getElem?_eq_some_iff.1 g2
        exact hj ((List.getElem_inj hD).1 (e1.trans e2.symm)).symm
      · intro hh
        have g1 : (D.map (·.2))[k]? = some e.2 := by simp [hk]
        have g2 : (D.map (·.2))[j]? = some e.2 := by simp [hy, hh]
        obtain ⟨l1, e1⟩ := List.getElem?_eq_some_iff.1 g1
        obtain ⟨l2, e2⟩ := List.getElem?_eq_some_iff.1 g2
        exact hj ((List.getElem_inj hD2).1 (e1.trans e2.symm)).symm
    rcases List.mem_append.1 hx with hx | hx
    · obtain ⟨j, hj⟩ := List.getElem?_of_mem hx
      rw [List.getElem?_take] at hj
      split at hj
      · simp only [vrows, List.getElem?_map] at hj
        obtain ⟨y, hy, rfl⟩ := Option.map_eq_some_iff.1 hj
        exact key j (by omega) y hy
      · cases hj
    · obtain ⟨j, hj⟩ := List.getElem?_of_mem hx
      rw [List.getElem?_drop] at hj
      simp only [vrows, List.getElem?_map] at hj
      obtain ⟨y, hy, rfl⟩ := Option.map_eq_some_iff.1 hj
      exact key _ (by omega) y hy
  · rcases hup e' he' hu with rfl | ⟨hh, hb'⟩
    · exact hpr
    · refine dep e' he' V _ w' (fun j hj => (setV_ne V v (fun hji => ?_)).symm) (stab e' he' V w w' (h.pr e' he' hb') hbl)
      rcases hj with hj | hj
      · exact hh (hj.symm.trans hji)
      · rw [hji] at hj
        have := hoff e' he' hj
        rw [hb'] at this; cases this
  · rcases hup e' he' hu with rfl | ⟨hh, hb'⟩
    · exact hownlt (hself k hk).1 k (hself k hk).2
    · rw [hother _ hh] at hk
      have := h.lt e' he' hb' k hk
      have := hbl.size
      omega
  · rcases hup e' he' hu with rfl | ⟨hh, hb'⟩
    · rcases hup e2 he2 hu2 with rfl | ⟨hh2, hb2⟩
      · exact absurd rfl hch
      · rw [hother _ hh2]
        exact hap (hself k hk).1 e2 he2 hb2 hch k (hself k hk).2
    · rw [hother _ hh] at hk
      rcases hup e2 he2 hu2 with rfl | ⟨hh2, hb2⟩
      · intro hk2
        exact hap (hself k hk2).1 e' he' hb' (Ne.symm hch) k (hself k hk2).2 hk
      · rw [hother _ hh2]
        exact h.apart e' he' e2 he2 hb' hb2 hch k hk

/-- The operations behind them, one behind the other. -/
def seqWp (P : Program) (ops : Array Oper) (Q : Exit → Act → World → Prop) : List Nat → Act → World → Prop
  | [], a, w => Q .normal a w
  | i :: r, a, w => ∃ oi, ops[i]? = some oi ∧ if Region.wanted oi (yielded ops a.tmps) = true then Oper.wp P oi a w (seqWp P ops Q r) Q else seqWp P ops Q r (a.put oi.dst undef) w
theorem seq_value {i : Nat} {r : List Nat} {oi : Oper} {N : Tmp} {a : Act} {w w1 : World} (v : Value) (ho : ops[i]? = some oi) (hg : oi.guard = none) (hN : oi.dst = some N) (hrun : (execOp a.eval oi).run P w = .ok (.value v) w1)
    (h : seqWp P ops Q r (a.put (some N) v) w1) : seqWp P ops Q (i :: r) a w := by
  refine ⟨oi, ho, ?_⟩
  rw [if_pos (by simp [Region.wanted, hg])]
  unfold Oper.wp
  rw [hrun]
  show seqWp P ops Q r (a.put oi.dst v) w1
  rw [hN]
  exact h
theorem seq_skip {i : Nat} {r : List Nat} {oi : Oper} {a : Act} {w w1 : World} (ho : ops[i]? = some oi) (hg : oi.guard = none) (hN : oi.dst = none) (hrun : (execOp a.eval oi).run P w = .ok .skip w1)
    (h : seqWp P ops Q r a w1) : seqWp P ops Q (i :: r) a w := by
  refine ⟨oi, ho, ?_⟩
  rw [if_pos (by simp [Region.wanted, hg])]
  unfold Oper.wp
  rw [hrun]
  show seqWp P ops Q r (a.put oi.dst undef) w1
  rw [hN]
  exact h
theorem seq_nil {a : Act} {w : World} (h : wpList P #[] Q [] a w) : seqWp P ops Q [] a w := h
/-- Each waits for those ahead of it. -/
def pairB (B : List Nat) : List Nat → Bool
  | [] => true
  | i :: r => (r.all fun j => (B.getD j 0).testBit i) && pairB B r
theorem pairB_mem {B : List Nat} : ∀ {l pre rest : List Nat} {i j : Nat}, pairB B l = true → l = pre ++ i :: rest → j ∈ rest → (B.getD j 0).testBit i = true
  | [], pre, rest, i, j, _, h, _ => by simp at h
  | x :: l, [], rest, i, j, hp, h, hj => by
    simp only [List.nil_append, List.cons.injEq] at h
    obtain ⟨rfl, rfl⟩ := h
    simp only [pairB, Bool.and_eq_true, List.all_eq_true] at hp
    exact hp.1 j hj
  | x :: l, y :: pre, rest, i, j, hp, h, hj => by
    simp only [List.cons_append, List.cons.injEq] at h
    simp only [pairB, Bool.and_eq_true] at hp
    exact pairB_mem hp.2 h.2 hj
/-- The whole: D's operations grow, 'tail' are those behind them all, one behind the other. -/
theorem grow_region {l : Array Bool} {fuel : Nat} {a0 : Act} {w0 : World} {B : List Nat} (D : List (Nat × Tmp)) (tail : List Nat) (ow : Nat → Bool) (ch : Nat → Nat) (Pr : Nat → (Nat → Value) → World → Prop) (hT : rtab md ops = T) (hB : bitsOf T.2 = B) (hw : waitsOk T.2 B = true) (hk : baseOk T.2 (D.map (·.1) ++ tail) = true)
    (hl : (lof T.2.length (D.map (·.1) ++ tail) (fun _ => false) == l.toList && (D.map (·.1) ++ tail).length == fuel) = true)
    (hD2 : decide (D.map (·.2)).Nodup = true) (hsz : (D.all fun e => decide (e.2 < a0.tmps.size)) = true) (hlast : (tail.all fun t => D.all fun e => (B.getD t 0).testBit e.1) = true) (hpair : (pairB B tail && !tail.isEmpty) = true)
    (dep : ∀ e ∈ D, ∀ V V' w, (∀ j, (j = e.1 ∨ (B.getD e.1 0).testBit j = true) → V j = V' j) → Pr e.1 V w → Pr e.1 V' w) (stab : ∀ e ∈ D, ∀ V w w', Pr e.1 V w → Below w.heap.size w w' → Pr e.1 V w')
    (hs : ∀ e ∈ D, GrowStep ow P ops Q a0 w0 B D ch Pr e)
    (hfin : ∀ V a w, a = putSel a0 (fun _ => true) (vrows D V) → Below w0.heap.size w0 w → (∀ e ∈ D, Pr e.1 V w) → (∀ e ∈ D, ∀ e' ∈ D, ch e.1 ≠ ch e'.1 → ∀ k, ob ow V e.1 = some k → ob ow V e'.1 ≠ some k) → (∀ e ∈ D, ∀ k, ob ow V e.1 = some k → w0.heap.size ≤ k ∧ k < w.heap.size) →
      seqWp P ops Q tail a w) :
    wpAnyLast P md ops Q (fun _ => True) [] fuel l a0 w0 := by
  have hnd := baseOk_nodup hk
  rw [List.nodup_append] at hnd
  have hD := hnd.1
  rw [Bool.and_eq_true] at hpair
  have hne : tail ≠ [] := by
    intro h
    rw [h] at hpair
    simp at hpair
  have hnl : ∀ e ∈ D, ∀ t ∈ tail, e.1 ≠ t := fun e he t ht h => hnd.2.2 e.1 (List.mem_map.2 ⟨e, he, rfl⟩) t ht h
  have hD2' := of_decide_eq_true hD2
  have hsz' : ∀ e ∈ D, e.2 < a0.tmps.size := fun e he => by simpa using List.all_eq_true.1 hsz e he
  have hlast' : ∀ t ∈ tail, ∀ e ∈ D, (B.getD t 0).testBit e.1 = true := fun t ht e he => List.all_eq_true.1 (List.all_eq_true.1 hlast t ht) e he
  have hO : ∀ e ∈ D, (D.map (·.1) ++ tail).contains e.1 = true := fun e he => by
    rw [List.contains_iff_mem]
    exact List.mem_append_left _ (List.mem_map.2 ⟨e, he, rfl⟩)
  have hOl : ∀ t ∈ tail, (D.map (·.1) ++ tail).contains t = true := fun t ht => by
    rw [List.contains_iff_mem]
    exact List.mem_append_right _ ht
  refine inv_ (B := B) (D.map (·.1) ++ tail) (fun b a w => ∃ pre rest, tail = pre ++ rest ∧ (∀ i ∈ pre, b i = true) ∧ (∀ i ∈ rest, b i = false) ∧ (pre = [] → ∃ V, GrowI ow a0 w0 B D ch Pr b a w V) ∧ (pre ≠ [] → seqWp P ops Q rest a w)) hT hw hk hl ?_ ?_ ?_
  · refine ⟨[], tail, rfl, fun _ h => absurd h (by simp), fun _ _ => rfl, fun _ => ⟨fun _ => undef, ?_, Below.refl _ _, fun _ _ h => absurd h (by simp), fun _ _ h => absurd h (by simp), fun _ _ _ _ h => absurd h (by simp)⟩, fun h => absurd rfl h⟩
    have : ∀ (L : List (Nat × Tmp × Value)) (a : Act), putSel a (fun _ => false) L = a := fun L => by
      induction L with
      | nil => intro a; rfl
      | cons x L ih => intro a; simp [putSel, ih]
    rw [this]
  · intro i hi b a w hI hb hon hoff
    obtain ⟨pre, rest, htail, hpre, hrest, hg, hq⟩ := hI
    rcases List.mem_append.1 hi with hi | hi
    · obtain ⟨e, he, rfl⟩ := List.mem_map.1 hi
      have hp0 : pre = [] := by
        cases pre with
        | nil => rfl
        | cons x pre =>
          have hx : x ∈ tail := by rw [htail]; simp
          have h1 := hpre x (by simp)
          rw [hoff x (by rw [hOl x hx, hlast' x hx e he]; rfl)] at h1
          cases h1
      obtain ⟨V, hV⟩ := hg hp0
      obtain ⟨oi, h1, h2⟩ := grow_step hD hD2' hsz' dep stab he (hs e he) hV hb (fun e' he' hbit => hon e'.1 (by rw [hO e' he', hbit]; rfl)) (fun e' he' hbit => hoff e'.1 (by rw [hO e' he', hbit]; rfl))
      refine ⟨oi, h1, fun K hK => h2 K fun a' w' hg => hK a' w' ⟨[], tail, rfl, fun _ h => absurd h (by simp), fun t ht => ?_, fun _ => hg, fun h => absurd rfl h⟩⟩
      rw [up_ne (hnl e he t ht).symm]
      subst hp0
      exact hrest t (by rw [← List.nil_append rest, ← htail]; exact ht)
    · have hir : i ∈ rest := by
        rw [htail] at hi
        rcases List.mem_append.1 hi with h | h
        · have := hpre i h
          rw [hb] at this; cases this
        · exact h
      cases rest with
      | nil => simp at hir
      | cons x rest =>
        have hxi : x = i := by
          rcases List.mem_cons.1 hir with h | h
          · exact h.symm
          · have h1 := pairB_mem hpair.1 htail h
            have hx : x ∈ tail := by rw [htail]; simp
            have h2 := hon x (by rw [hOl x hx, h1]; rfl)
            rw [hrest x (by simp)] at h2; cases h2
        subst hxi
        have hseq : seqWp P ops Q (x :: rest) a w := by
          by_cases hp0 : pre = []
          · obtain ⟨V, hV⟩ := hg hp0
            have hall : ∀ e ∈ D, b e.1 = true := fun e he => hon e.1 (by rw [hO e he, hlast' x hi e he]; rfl)
            have hfr : a = putSel a0 (fun _ => true) (vrows D V) := by
              rw [hV.frame]
              have : ∀ (L : List (Nat × Tmp × Value)) (a : Act), (∀ x ∈ L, b x.1 = true) → putSel a b L = putSel a (fun _ => true) L := fun L => by
                induction L with
                | nil => intro a _; rfl
                | cons x L ih =>
                  intro a hx
                  simp only [putSel, hx x (by simp), if_true]
                  exact ih _ (fun y hy => hx y (by simp [hy]))
              refine this _ _ (fun x hx => ?_)
              obtain ⟨e, he, rfl⟩ := List.mem_map.1 hx
              exact hall e he
            have h1 := hfin V a w hfr hV.below (fun e he => hV.pr e he (hall e he)) (fun e he e' he' hc => hV.apart e he e' he' (hall e he) (hall e' he') hc) (fun e he => hV.lt e he (hall e he))
            rw [htail, hp0] at h1
            exact h1
          · exact hq hp0
        obtain ⟨oi, ho, hstep⟩ := hseq
        have hpn : (pre ++ [x]) ≠ [] := by simp
        have hnt : (pre ++ x :: rest).Nodup := by rw [← htail]; exact hnd.2.1
        have hxr : x ∉ rest := fun h => by
          have := (List.nodup_append.1 hnt).2.1
          simp only [List.nodup_cons] at this
          exact this.1 h
        refine ⟨oi, ho, fun K hK => ?_⟩
        have key : ∀ a' w', seqWp P ops Q rest a' w' → K a' w' := fun a' w' h => hK.out a' w' ⟨pre ++ [x], rest, by rw [htail]; simp, fun j hj => by
            by_cases hjx : j = x
            · rw [hjx]; exact up_self _ _
            · rw [up_ne hjx]
              rcases List.mem_append.1 hj with hj | hj
              · exact hpre j hj
              · simp at hj; exact absurd hj hjx, fun j hj => by
            have hjx : j ≠ x := by
              intro hh
              rw [hh] at hj
              exact hxr hj
            rw [up_ne hjx]
            exact hrest j (by simp [hj]), fun h => absurd h hpn, fun _ => h⟩
        by_cases hwt : Region.wanted oi (yielded ops a.tmps) = true
        · rw [if_pos hwt] at hstep ⊢
          exact Oper.wp_mono key hstep
        · rw [if_neg hwt] at hstep ⊢
          exact key _ _ hstep
  · rintro b a w hall ⟨pre, rest, htail, hpre, hrest, hg, hq⟩
    have hr0 : rest = [] := by
      cases rest with
      | nil => rfl
      | cons x rest =>
        have h1 := hrest x (by simp)
        rw [hall x (hOl x (by rw [htail]; simp))] at h1
        cases h1
    subst hr0
    rw [List.append_nil] at htail
    exact hq (htail ▸ hne)
end

/-! ### append to a new empty slice -/
theorem run_append_lit {P : Program} {w : World} {s : Nat} (t ty e : TypeId) (z : Value) (bytes : Nat) (ht : P.underlying t = some (.slice e)) (hinfo : (P.info? e).map (fun i => (i.zero, i.size, i.bytes)) = some (some z, 1, bytes)) (hz : z.cells.size = 1) (hs : Blk w s e [])
    {A : Option Addr} {n c : Nat} {us : List Value} (hr : Row1 w A n us) (h1 : ∀ u ∈ us, u.oneCell' = true) (h63 : n ≤ maxLen) (hb : n * bytes ≤ 140737488355328) (base : Nat) (hbase : base ≤ s) :
    ∃ v w', (Builtin.append_ #[t, t] ty #[.slice (some ⟨s, 0, none⟩) 0 0, .slice A n c]).run P w = .ok v w' ∧ Below w.heap.size w w' ∧ w'.ownsRow base e 1 v n us ∧ ∀ k, v.ownBlock = some k → k < w'.heap.size ∧ (w.heap.size ≤ k ∨ k = s) := by
  obtain ⟨i0, hi, hzz⟩ := Option.map_eq_some_iff.1 hinfo
  simp only [Prod.mk.injEq] at hzz
  obtain ⟨hz0, hz1, hz2⟩ := hzz
  have hlt := hs.lt
  rcases Nat.eq_zero_or_pos n with rfl | hn
  · have hus : us = [] := List.eq_nil_of_length_eq_zero hr.1
    subst hus
    have hown : w.ownsRow base e 1 (.slice (some ⟨s, 0, none⟩) 0 0) 0 [] := ⟨by simp, .inr ⟨s, 0, #[], rfl, hbase, hs, Nat.le_refl _, by simp [maxLen], by simp, by simp⟩⟩
    have hrun : (Builtin.append_ #[t, t] ty #[.slice (some ⟨s, 0, none⟩) 0 0, .slice A 0 c]).run P w = .ok (.slice (some ⟨s, 0, none⟩) 0 0) w := by
      cases A with
      | none =>
        simp [Builtin.append_, run_underlying ht, sizeOf, typeInfo, hi, Builtin.lenOf, Builtin.firstCells, storeCells, loadCells, loadCellsFrom, hz1, Result.andThen]
      | some ad =>
        simp [Builtin.append_, run_underlying ht, sizeOf, typeInfo, hi, Builtin.lenOf, Builtin.firstCells, storeCells, loadCells, loadCellsFrom, hz1, Result.andThen]
    exact ⟨_, w, hrun, Below.refl _ _, hown, fun k hk => by
      simp [Value.ownBlock] at hk
      subst hk
      exact ⟨hlt, .inr rfl⟩⟩
  · obtain ⟨ad, rfl, hc⟩ := hr.2 hn
    obtain ⟨v, w', hrun, hown, hg⟩ := run_append_arg_grows (P := P) w t ty e i0 z 1 bytes ht hi hz0 hz1 hz2 hz (by decide) ⟨s, 0, none⟩ 0 0 [] (by simp) (by simp) ad n c us (by have := hr.1; omega) hc (by omega) (by omega) (by rw [Nat.zero_add]; exact hb)
    refine ⟨v, w', by simpa using hrun, ⟨hg.os, hg.tape, hg.output, hg.size, fun k hk => hg.block k hk (by simp)⟩, ?_, fun k hk => ?_⟩
    · have : w'.ownsRow w.heap.size e 1 v n us := by simpa using hown
      exact own_weaken this (by omega)
    · have := World.ownsRow.lt hown k hk
      exact ⟨this.2, .inl this.1⟩
end Go.Proofs.Ytphhdmopfmelbaa

/- Small words for walks that make lists: append as a step; an append to an empty literal. No program but its types. -/
namespace Go.Proofs.Ytphhdmopfmelbaa
open Go.RowKit Go.Proofs.YtphhdmopfmelbaaW.PrintWords
set_option linter.unusedVariables false
set_option linter.unusedSimpArgs false

theorem one_int (l : List Int) : ∀ u ∈ l.map (Value.int .i64), u.oneCell' = true := fun u hu => by
  obtain ⟨x, _, rfl⟩ := List.mem_map.1 hu
  rfl
theorem one_bool (l : List Bool) : ∀ u ∈ l.map Value.bool, u.oneCell' = true := fun u hu => by
  obtain ⟨x, _, rfl⟩ := List.mem_map.1 hu
  rfl
theorem append_exec {P : Program} {o : Oper} {a : Act} {s x : Operand} {t : TypeId} {v u r : Value} {w w1 : World} (ho : o.op = .call { callee := .builtin .append, args := #[s, x], argTypes := #[t, t] }) (hs : a.eval s = v) (hx : a.eval x = u)
    (hr : (Builtin.append_ #[t, t] o.type #[v, u]).run P w = .ok r w1) : (execOp a.eval o).run P w = .ok (.value r) w1 := by
  unfold execOp
  simp only [ho, resolve, invoke, builtin, Sem.run_bind, Sem.run_pure, Result.andThen_ok, List.map_toArray, List.map_cons, List.map_nil, hs, hx, hr]
theorem store_exec {P : Program} {o : Oper} {a : Act} {p x : Operand} {t : TypeId} {v u : Value} {w w1 : World} (ho : o.op = .store t p x) (hp : a.eval p = v) (hx : a.eval x = u)
    (hr : (Instr.storeAt t v u).run P w = .ok () w1) : (execOp a.eval o).run P w = .ok .skip w1 := by
  unfold execOp
  simp only [ho, Sem.run_bind, Sem.run_pure, Result.andThen_ok, hp, hx, hr]
theorem run_append_lits {P : Program} {w : World} {s : Nat} (t ty e : TypeId) (z : Value) (size bytes : Nat) (h0s : 0 < size) (ht : P.underlying t = some (.slice e)) (hinfo : (P.info? e).map (fun i => (i.zero, i.size, i.bytes)) = some (some z, size, bytes)) (hz : z.cells.size = size) (hs : Blk w s e [])
    {A : Option Addr} {n c : Nat} {us : List Value} (hr : us.length = n * size ∧ (0 < n → ∃ ad, A = some ad ∧ ∀ j u, us[j]? = some u → w.cell? (ad.add j) = some u)) (h1 : ∀ u ∈ us, u.oneCell' = true) (h63 : n ≤ maxLen) (hb : n * bytes ≤ 140737488355328) (base : Nat) (hbase : base ≤ s) :
    ∃ v w', (Builtin.append_ #[t, t] ty #[.slice (some ⟨s, 0, none⟩) 0 0, .slice A n c]).run P w = .ok v w' ∧ Below w.heap.size w w' ∧ w'.ownsRow base e size v n us ∧ ∀ k, v.ownBlock = some k → k < w'.heap.size ∧ (w.heap.size ≤ k ∨ k = s) := by
  obtain ⟨i0, hi, hzz⟩ := Option.map_eq_some_iff.1 hinfo
  simp only [Prod.mk.injEq] at hzz
  obtain ⟨hz0, hz1, hz2⟩ := hzz
  have hlt := hs.lt
  rcases Nat.eq_zero_or_pos n with rfl | hn
  · have hus : us = [] := List.eq_nil_of_length_eq_zero (by simpa using hr.1)
    subst hus
    have hown : w.ownsRow base e size (.slice (some ⟨s, 0, none⟩) 0 0) 0 [] := ⟨by simp, .inr ⟨s, 0, #[], rfl, hbase, hs, Nat.le_refl _, by simp [maxLen], by simp, by simp⟩⟩
    have hrun : (Builtin.append_ #[t, t] ty #[.slice (some ⟨s, 0, none⟩) 0 0, .slice A 0 c]).run P w = .ok (.slice (some ⟨s, 0, none⟩) 0 0) w := by
      cases A with
      | none =>
        simp [Builtin.append_, run_underlying ht, sizeOf, typeInfo, hi, Builtin.lenOf, Builtin.firstCells, storeCells, loadCells, loadCellsFrom, hz1, Result.andThen]
      | some ad =>
        simp [Builtin.append_, run_underlying ht, sizeOf, typeInfo, hi, Builtin.lenOf, Builtin.firstCells, storeCells, loadCells, loadCellsFrom, hz1, Result.andThen]
    exact ⟨_, w, hrun, Below.refl _ _, hown, fun k hk => by
      simp [Value.ownBlock] at hk
      subst hk
      exact ⟨hlt, .inr rfl⟩⟩
  · obtain ⟨ad, rfl, hc⟩ := hr.2 hn
    obtain ⟨v, w', hrun, hown, hg⟩ := run_append_arg_grows (P := P) w t ty e i0 z size bytes ht hi hz0 hz1 hz2 hz h0s ⟨s, 0, none⟩ 0 0 [] (by simp) (by simp) ad n c us (by have := hr.1; omega) hc (by omega) (by omega) (by rw [Nat.zero_add]; exact hb)
    refine ⟨v, w', by simpa using hrun, ⟨hg.os, hg.tape, hg.output, hg.size, fun k hk => hg.block k hk (by simp)⟩, ?_, fun k hk => ?_⟩
    · have : w'.ownsRow w.heap.size e size v n us := by simpa using hown
      exact own_weaken this (by omega)
    · have := World.ownsRow.lt hown k hk
      exact ⟨this.2, .inl this.1⟩
/-- append([]T{}, l...) as a step of a walk; behind 'at_builtin'. -/
theorem print_append_spread {P : Program} {ops : Array Oper} {rest : List Oper} {o : Oper} {a : Act} {Q : Exit → Act → World → Prop} {W : World} (hgd : o.guard = none) (s x : Operand) (t e : TypeId) (z : Value) (size bytes : Nat) (h0s : 0 < size)
    (ho : o.op = .call { callee := .builtin .append, args := #[s, x], argTypes := #[t, t] }) (ht : P.underlying t = some (.slice e)) (hinfo : (P.info? e).map (fun i => (i.zero, i.size, i.bytes)) = some (some z, size, bytes)) (hz : z.cells.size = size)
    {A : Option Addr} {n c : Nat} {us : List Value} (hs : a.eval s = .slice (some ⟨W.heap.size, 0, none⟩) 0 0) (hx : a.eval x = .slice A n c)
    (hr : us.length = n * size ∧ (0 < n → ∃ ad, A = some ad ∧ ∀ j u, us[j]? = some u → (W.alloc (.cells #[] e)).cell? (ad.add j) = some u)) (h1 : ∀ u ∈ us, u.oneCell' = true) (h63 : n ≤ maxLen) (hb : n * bytes ≤ 140737488355328)
    (h : ∀ v w', w'.ownsRow W.heap.size e size v n us → Below W.heap.size W w' → wpList P ops Q rest (a.put o.dst v) w') :
    wpList P ops Q (o :: rest) a (W.alloc (.cells #[] e)) := by
  obtain ⟨v, w', hrun, hbl, hown, _⟩ := run_append_lits (P := P) (w := W.alloc (.cells #[] e)) (s := W.heap.size) t o.type e z size bytes h0s ht hinfo hz (by simpa using Blk.new W e []) hr h1 h63 hb W.heap.size (Nat.le_refl _)
  refine wpList_plain hgd fun K hK => ?_
  unfold Oper.wp
  rw [append_exec ho hs hx hrun]
  exact hK _ _ (h v w' hown (((Below.refl W.heap.size W).alloc (Nat.le_refl _) _).trans (hbl.mono (by simp))))
end Go.Proofs.Ytphhdmopfmelbaa

/- larchref02: Copy, Ints. -/
namespace Go.Proofs.Ytphhdmopfmelbaa
open Go.RowKit Go.Proofs.YtphhdmopfmelbaaW.PrintWords
set_option linter.unusedVariables false
set_option linter.unusedSimpArgs false

theorem ref02_Copy (w : World) (A : Option Addr) (c : Nat) (xs : List Int) (hx : Row1 w A xs.length (xs.map (Value.int .i64))) (hl : xs.length * 8 ≤ 140737488351232) :
    Calls Try.prog 65 #[.slice A xs.length c] w fun e w' => ∃ v, e = .returned v ∧ w'.ownsRow w.heap.size TII 1 v xs.length (xs.map (Value.int .i64)) ∧ Below w.heap.size w w' := by
  refine calls_hide fun Q HQ => ?_
  have HQ' := Lib.hid HQ
  have HR := Lib.hid (hx.below ((Below.refl w.heap.size w).alloc (Nat.le_refl _) (.cells #[] TII)))
  clear HQ hx
  go_enter Try.func65, Try.ntmps65
  go_wp2_with (at_builtin; refine print_append_spread (W := w) rfl _ _ 23 TII (.int .i64 0) 1 8 (by decide) rfl Try.underlying23 tinfo_int rfl (A := A) (n := xs.length) (c := c) (us := xs.map (Value.int .i64)) rfl rfl ⟨by simp, HR.out.2⟩ (one_int _) (by simp only [maxLen]; omega) (by omega) ?_)
  intro v w1 ho hb
  have HO := Lib.hid ho
  have HB := Lib.hid hb
  clear ho hb
  go_wp2
  exact HQ'.out _ _ ⟨_, rfl, HO.out, HB.out⟩
theorem eq_of_take {α : Type} {xs ys : List α} (hl : xs.length = ys.length) (h : ∀ i, i < xs.length → xs[i]? = ys[i]?) : xs = ys := by
  apply List.ext_getElem? 
  intro i
  rcases Nat.lt_or_ge i xs.length with hi | hi
  · exact h i hi
  · rw [List.getElem?_eq_none hi, List.getElem?_eq_none (by omega)]

set_option maxHeartbeats 1000000 in
theorem ref02_Ints (A : Option Addr) (c : Nat) (xs : List Int) (A' : Option Addr) (c' : Nat) (ys : List Int) (w : World) (hr : Row1 w A xs.length (xs.map (Value.int .i64))) (hr' : Row1 w A' ys.length (ys.map (Value.int .i64))) (hl : xs.length ≤ 1000000000000000) :
    Calls Try.prog 14 #[.slice A xs.length c, .slice A' ys.length c'] w fun e w' => e = .returned (.bool (decide (xs = ys))) ∧ ∃ m, w' = w.drewN m := by
  refine calls_hide fun Q HQ => ?_
  have HQ' := Lib.hid HQ
  have HR := Lib.hid hr
  have HR' := Lib.hid hr'
  clear HQ hr hr'
  by_cases hlen : xs.length = ys.length
  case neg =>
    have hs : decide (xs = ys) = false := decide_eq_false (fun e => hlen (by rw [e]))
    rw [hs] at HQ'
    go_enter Try.func14, Try.ntmps14
    go_wp2
    exact HQ'.out _ _ ⟨rfl, 0, rfl⟩
  have HL := Lib.hid hlen
  have hA' : (.slice A' ys.length c' : Value) = .slice A' xs.length c' := by rw [hlen]
  rw [hA']
  clear hlen hA'
  have HNE := Lib.hid (show ∀ j (h1 : j < xs.length), xs[j] ≠ ys[j]'(by have := HL.out; omega) → decide (xs = ys) = false from fun j h1 h2 => decide_eq_false (fun e => h2 (by subst e; rfl)))
  have HEQ := Lib.hid (show (∀ i, i < xs.length → xs[i]? = ys[i]?) → decide (xs = ys) = true from fun h => decide_eq_true (eq_of_take HL.out h))
  go_enter Try.func14, Try.ntmps14
  go_wp2
  go_loopw [5] (fun k wr => ∃ j : Nat, j ≤ xs.length ∧ k = .int .i64 j ∧ (∀ i, i < j → xs[i]? = ys[i]?) ∧ ∃ m, wr = w.drewN m) (fun k _ => xs.length - (intOf k).toNat)
  case atStart => exact ⟨0, Nat.zero_le _, rfl, fun i hi => absurd hi (Nat.not_lt_zero i), 0, rfl⟩
  case round =>
    obtain ⟨j, hj, rfl, hn, m, rfl⟩ := hrel
    have HN := Lib.hid hn
    clear hn
    by_cases hlt : j < xs.length
    · have hlt2 : j < ys.length := by have := HL.out; omega
      obtain ⟨ad, rfl, hc0⟩ := HR.out.at_ (j := j) (u := Value.int .i64 xs[j]) (by simp [List.getElem?_eq_getElem hlt])
      obtain ⟨ad', rfl, hc0'⟩ := HR'.out.at_ (j := j) (u := Value.int .i64 ys[j]) (by simp [List.getElem?_eq_getElem hlt2])
      have HX := Lib.hid (List.getElem?_eq_getElem hlt)
      have HY := Lib.hid (List.getElem?_eq_getElem hlt2)
      have HNE2 := Lib.hid (HNE.out j hlt)
      generalize xs[j] = x at *
      generalize ys[j] = y at *
      by_cases hxy : x = y
      · subst hxy
        go_wp2
        go_quiet (fail)
        go_wp2
        go_roundw
        case rel => exact ⟨j + 1, by omega, by go_num, fun i hi => by
          rcases Nat.lt_or_ge i j with h | h
          · exact HN.out i h
          · have : i = j := by omega
            subst this
            rw [HX.out, HY.out], m + nq, by first | rfl | exact World.drewN_drewN _ _ _⟩
        case measure => simp [intOf]; omega
      · have hs := HNE2.out hxy
        rw [hs] at HQ'
        skip
        all_goals
          go_wp2
          go_quiet (fail)
          go_wp2
          exact HQ'.out _ _ ⟨rfl, m + nq, by first | rfl | exact World.drewN_drewN _ _ _⟩
    · have hje : j = xs.length := by omega
      subst hje
      have hs := HEQ.out HN.out
      rw [hs] at HQ'
      go_wp2
      exact HQ'.out _ _ ⟨rfl, m, rfl⟩

end Go.Proofs.Ytphhdmopfmelbaa

/- larchref13: Copy. Written by p_copy13.py. -/
namespace Go.Proofs.Ytphhdmopfmelbaa
open Go.RowKit Go.Proofs.YtphhdmopfmelbaaW.PrintWords Go.Proofs.YtphhdmopfmelbaaW.PrintLast
set_option linter.unusedVariables false
set_option linter.unusedSimpArgs false

theorem winfo_row : (Try.prog.info? 23).map (fun i => (i.zero, i.size, i.bytes)) = some (some (.slice none 0 0), 1, 24) := by kernel_rfl
theorem winfo_bool : (Try.prog.info? 4).map (fun i => (i.zero, i.size, i.bytes)) = some (some (.bool false), 1, 1) := by kernel_rfl
theorem wsizeR3 : (Try.prog.info? TRW3).map (·.size) = some 5 := by kernel_rfl
abbrev zeroW : List Value := [.slice none 0 0, .slice none 0 0, .slice none 0 0, .slice none 0 0, .slice none 0 0]
theorem res_end3 {w1 : World} {g : Nat} {cs : List Value} (hb : Blk w1 g TRW3 zeroW) (a b c d f : Value) (wz : World)
    (e : wz = ((((w1.setCell ⟨g, 0, none⟩ a).setCell ⟨g, 1, none⟩ b).setCell ⟨g, 2, none⟩ c).setCell ⟨g, 3, none⟩ d).setCell ⟨g, 4, none⟩ f) :
    Blk wz g TRW3 [a, b, c, d, f] ∧ Fr w1 wz (fun k => k = g) := by
  subst e
  exact ⟨((((hb.set 0 a).set 1 b).set 2 c).set 3 d).set 4 f,
    (((((Fr.refl w1 (fun k => k = g)).setCell ⟨g, 0, none⟩ a (fun _ => rfl)).setCell ⟨g, 1, none⟩ b (fun _ => rfl)).setCell ⟨g, 2, none⟩ c (fun _ => rfl)).setCell ⟨g, 3, none⟩ d (fun _ => rfl)).setCell ⟨g, 4, none⟩ f (fun _ => rfl)⟩
/-- While the rows of fields are copied. -/
structure CpAt (w0 : World) (v : WV) (d : WD) (pb : Nat) (j : Nat) (fv : Value) (us : List Value) (w : World) : Prop where
  below : Below w0.heap.size w0 w
  par : Blk w pb TRW3 (v.cells d)
  res : Blk w (pb + 1) TRW3 zeroW
  out : OutW w0.heap.size ⟨d.fields.take j, [], [], [], []⟩ fv (.slice none 0 0) (.slice none 0 0) (.slice none 0 0) (.slice none 0 0) us w
theorem CpAt.more {w0 : World} {v : WV} {d : WD} {pb j : Nat} {fv : Value} {us : List Value} {w w' : World} (h : CpAt w0 v d pb j fv us w) (hb : Below w.heap.size w w') : CpAt w0 v d pb j fv us w' :=
  ⟨h.below.trans (hb.mono h.below.size), h.par.below hb h.par.lt, h.res.below hb h.res.lt, h.out.below hb⟩
theorem CpAt.round {w0 : World} {v : WV} {d : WD} {pb j : Nat} {fv v1 u : Value} {us : List Value} {w wz w1 : World} (h : CpAt w0 v d pb j fv us w) (hj : j < d.fields.length) (hb : Below w.heap.size w wz)
    (hu : wz.ownsRow w.heap.size TII 1 u d.fields[j].length (d.fields[j].map (Value.int .i64))) (hg : wz.grownBy w1 fv.ownBlock) (ho : w1.ownsRow w0.heap.size TRI 1 v1 (j + 1) (us ++ [u])) : CpAt w0 v d pb (j + 1) v1 (us ++ [u]) w1 := by
  have hz := h.more hb
  have hs0 := h.below.size
  have hlen : (d.fields.take j).length = j := by simp; omega
  have hf := Fr.of_grown hg
  have hne : ∀ {k ys}, Blk wz k TRW3 ys → ¬ some k = fv.ownBlock := fun hx e2 => by
    obtain ⟨c, hc⟩ := owns_typed hz.out.f _ e2.symm
    exact absurd ((show Blk wz _ TRI c from hc).inj hx).1 (by decide)
  have hp := hz.out.pushF (r := d.fields[j]) (v' := v1) hg (own_weaken hu hs0) (fun k hk hx => by
    have h1 := (World.ownsRow.lt hu k hk).1
    have h2 := (h.out.foot hx).2.1
    omega) (by simpa [hlen] using ho)
  have htk : d.fields.take j ++ [d.fields[j]] = d.fields.take (j + 1) := take_one'' d.fields j hj
  simp only [htk] at hp
  exact ⟨hz.below.trans (hf.below hz.below.size (fun k hk => (World.ownsRow.lt hz.out.f k hk.symm).1)), hf.blk hz.par (hne hz.par), hf.blk hz.res (hne hz.res), hp⟩
/-- The rows, and what has been made beside them. -/
theorem cp_out {B : Nat} {d : WD} {fv iv mv sv zv : Value} {us : List Value} {w w' : World} (h : OutW B ⟨d.fields, [], [], [], []⟩ fv (.slice none 0 0) (.slice none 0 0) (.slice none 0 0) (.slice none 0 0) us w) (hbl : Below w.heap.size w w') (hB : B ≤ w.heap.size)
    (h1 : w'.ownsRow w.heap.size TII 1 iv d.infos.length (d.infos.map (Value.int .i64))) (h2 : w'.ownsRow w.heap.size TBB 1 mv d.marks.length (d.marks.map Value.bool)) (h3 : w'.ownsRow w.heap.size TII 1 sv d.states.length (d.states.map (Value.int .i64))) (h4 : w'.ownsRow w.heap.size TBB 1 zv d.frozen.length (d.frozen.map Value.bool))
    (hd1 : ∀ k, iv.ownBlock = some k → sv.ownBlock ≠ some k) (hd2 : ∀ k, mv.ownBlock = some k → zv.ownBlock ≠ some k) : OutW B d fv iv mv sv zv us w' := by
  have ho := h.below hbl
  have key : ∀ {v : Value} {n : Nat} {xs : List Value}, w'.ownsRow w.heap.size TII 1 v n xs → ∀ k, v.ownBlock = some k → ∀ u ∈ us, u.ownBlock ≠ some k := fun hv k hk u hu e => by
    have a1 := (World.ownsRow.lt hv k hk).1
    have a2 := (h.foot (.inr (.inr (.inr (.inr (.inr ⟨u, hu, e⟩)))))).2.1
    omega
  exact ⟨ho.f, ho.inn, ho.dd, own_weaken h1 hB, own_weaken h2 hB, own_weaken h3 hB, own_weaken h4 hB, key h1, key h3, hd1, hd2⟩

set_option maxHeartbeats 8000000 in
set_option maxRecDepth 100000 in
theorem ref13_Copy (w : World) (v : WV) (d : WD) (hv : v.Reads w d) (hl : d.fields.length ≤ 1000000000 ∧ d.infos.length * 8 ≤ 140737488351232 ∧ d.marks.length ≤ 140737488351232 ∧ d.states.length * 8 ≤ 140737488351232 ∧ d.frozen.length ≤ 140737488351232) (hr : ∀ r ∈ d.fields, r.length * 8 ≤ 140737488351232) :
    Calls Try.prog 30 #[v.val d] w fun e w' => ∃ fv iv mv sv zv us, e = .returned (.agg #[fv, iv, mv, sv, zv]) ∧ OutW w.heap.size d fv iv mv sv zv us w' ∧ Below w.heap.size w w' := by
  refine calls_hide fun Q HQ => ?_
  have HQ' := Lib.hid HQ
  have HV := Lib.hid hv
  have HRr := Lib.hid hr
  have HL := Lib.hid hl
  have hba := ((Below.refl w.heap.size w).alloc (Nat.le_refl _) (.cells (v.cells d).toArray TRW3)).alloc (by simp) (.cells #[.slice none 0 0, .slice none 0 0, .slice none 0 0, .slice none 0 0, .slice none 0 0] TRW3)
  have hb1 := (Blk.new w TRW3 (v.cells d)).alloc (.cells #[.slice none 0 0, .slice none 0 0, .slice none 0 0, .slice none 0 0, .slice none 0 0] TRW3)
  have hb2 := Blk.new (w.alloc (.cells (v.cells d).toArray TRW3)) TRW3 zeroW
  rw [World.size_alloc] at hb2
  have HAT := Lib.hid (show CpAt w v d w.heap.size 0 (.slice none 0 0) [] _ from ⟨hba, hb1, hb2, OutW.empty _ _⟩)
  clear HQ hv hr hl hba hb1 hb2
  go_enter Try.func30, Try.ntmps30
  go_wp2
  go_loopw [4, 3] (fun k fv wr => ∃ (j : Nat) (us : List Value), j ≤ d.fields.length ∧ k = .int .i64 j ∧ CpAt w v d w.heap.size j fv us wr) (fun k _ _ => d.fields.length - (intOf k).toNat)
  case atStart => exact ⟨0, [], Nat.zero_le _, rfl, HAT.out⟩
  case round =>
    clear HAT
    obtain ⟨j, us, hj, rfl, hat⟩ := hrel
    have HAT := Lib.hid hat
    have hp0 : wr.cell? ⟨w.heap.size, 0, none⟩ = some (.slice v.A0 d.fields.length v.c0) := hat.par.cell 0
    have hlb : d.fields.length ≤ 1000000000 := HL.out.1
    clear hat
    by_cases hlt : j < d.fields.length
    · obtain ⟨ad, hA, A', c', hr0, _, hrow⟩ := row_at HV.out.h0 hlt
      have hr1 := pw_cell_below HAT.out.below hr0
      have hrl := HRr.out _ (List.getElem_mem hlt)
      have HC := Lib.hid (ref02_Copy wr A' c' d.fields[j] ((row1_of_C hrow).below HAT.out.below) hrl)
      have HFIN := Lib.hid (fun wz w1 u v1 => HAT.out.round (wz := wz) (w1 := w1) (u := u) (v1 := v1) hlt)
      have hfo := HAT.out.out.f
      have hlen : (d.fields.take j).length = j := by simp; omega
      simp only [hlen] at hfo
      have HFO := Lib.hid hfo
      obtain ⟨Af, cf, ef, _, _⟩ := owns_slice hfo
      generalize d.fields[j] = row at *
      obtain ⟨A0, c0, A1, c1, A2, c2, A3, c3, A4, c4⟩ := v
      simp only at hA hp0
      subst hA
      subst ef
      clear hr0 hrow hfo hlen
      go_wp2_with fail
      refine HC.out.mono ?_
      rintro e w1 ⟨u, rfl, hown, hbl⟩
      obtain ⟨Au, cu, eu, _, _⟩ := owns_slice hown
      have HU := Lib.hid hown
      have HB := Lib.hid hbl
      have HFb := Lib.hid (owns_fr HFO.out (Fr.of_below0 (S := fun _ => False) hbl) (fun _ _ => id))
      have HBw := Lib.hid (HAT.out.below.trans (hbl.mono HAT.out.below.size))
      clear hown hbl HC hr1 hp0
      subst eu
      go_wp2_with (at_builtin; refine print_append_cells w.heap.size rfl _ _ 22 TRI (.slice none 0 0) 1 24 rfl Try.underlying22 winfo_row rfl (by decide) (by decide) (.slice Af j cf) j _ [.slice Au row.length cu] rfl rfl rfl (by simp [Value.oneCell']) HFb.out HBw.out HBw.out.size (by omega) ?_)
      intro v1 w2 hown2 hb2 hg2 hat2
      have HN := Lib.hid (HFIN.out w1 w2 _ v1 HB.out HU.out hg2 hown2)
      clear hown2 hb2 hg2 hat2 HFIN HU HB HFb HBw HFO HAT
      go_wp2
      go_roundw
      case rel => exact ⟨j + 1, _, by omega, by go_num, HN.out⟩
      case measure => simp [intOf]; omega
    · have hje : j = d.fields.length := by omega
      subst hje
      clear hlt hj
      have hout := HAT.out.out
      rw [List.take_length] at hout
      have HOUT := Lib.hid hout
      obtain ⟨Af, cf, ef, _, _⟩ := owns_slice hout.f
      subst ef
      clear hout
      go_wp2
      refine start_ (n := 17) (S := fun _ => True) (ds := []) #[false, false, false, false, false, false, false, false, false, false, false, false, false, false, false, false, false] (by kernel_rfl) rfl rfl trivial (fun _ => ?_)
      have HBA := Lib.hid HAT.out.below.drew
      have HOUTA := Lib.hid (HOUT.out.below (w' := wr.drew) (Below.refl _ _).drew)
      have HBL1 := Lib.hid (HAT.out.par.drew)
      have HBL2 := Lib.hid (HAT.out.res.drew)
      clear HAT HOUT hp0
      generalize wr.drew = wA at *
      have hpb : ∃ pb, pb = w.heap.size := ⟨_, rfl⟩
      obtain ⟨pb, hpb⟩ := hpb
      rw [← hpb] at HBL1 HBL2 ⊢
      have HC1 := Lib.hid (fun w' (hb : Below wA.heap.size wA w') => show w'.cell? ⟨pb, 1, none⟩ = some (.slice v.A1 d.infos.length v.c1) from pw_cell_below hb (HBL1.out.cell 1))
      have HC2 := Lib.hid (fun w' (hb : Below wA.heap.size wA w') => show w'.cell? ⟨pb, 2, none⟩ = some (.slice v.A2 d.marks.length v.c2) from pw_cell_below hb (HBL1.out.cell 2))
      have HC3 := Lib.hid (fun w' (hb : Below wA.heap.size wA w') => show w'.cell? ⟨pb, 3, none⟩ = some (.slice v.A3 d.states.length v.c3) from pw_cell_below hb (HBL1.out.cell 3))
      have HC4 := Lib.hid (fun w' (hb : Below wA.heap.size wA w') => show w'.cell? ⟨pb, 4, none⟩ = some (.slice v.A4 d.frozen.length v.c4) from pw_cell_below hb (HBL1.out.cell 4))
      have HR1 := Lib.hid (fun w' (hb : Below wA.heap.size wA w') => ((row1_of_C HV.out.h1).below HBA.out).below hb)
      have HR2 := Lib.hid (fun w' (hb : Below wA.heap.size wA w') => ((row1_of_C HV.out.h2).below HBA.out).below hb)
      have HR3 := Lib.hid (fun w' (hb : Below wA.heap.size wA w') => ((row1_of_C HV.out.h3).below HBA.out).below hb)
      have HR4 := Lib.hid (fun w' (hb : Below wA.heap.size wA w') => ((row1_of_C HV.out.h4).below HBA.out).below hb)
      have HPB := Lib.hid hpb
      clear hpb HBL1
      refine grow_region (md := .any) (w0 := wA) (B := [0, 0, 2, 6, 0, 0, 32, 126, 0, 256, 1022, 0, 0, 4096, 16382, 32767, 65535]) [(0, 21), (1, 22), (2, 23), (3, 24), (4, 25), (5, 26), (6, 27), (7, 28), (8, 29), (9, 30), (10, 31), (11, 32), (12, 33), (13, 34), (14, 35), (15, 36)] [16] (fun i => [3, 4, 7, 10, 11, 14].contains i) (fun i => if i = 3 then 1 else if i < 8 then 2 else if i = 10 then 3 else if i < 15 then 4 else 0) (fun i V w' => match i with
          | 0 => V 0 = .slice Af d.fields.length cf
          | 1 => V 1 = .pointer (some ⟨pb, 1, none⟩)
          | 2 => V 2 = .slice v.A1 d.infos.length v.c1
          | 3 => w'.ownsRow wA.heap.size TII 1 (V 3) d.infos.length (d.infos.map (Value.int .i64))
          | 4 => ∃ s, V 4 = .slice (some ⟨s, 0, none⟩) 0 0 ∧ Blk w' s TBB [] ∧ wA.heap.size ≤ s
          | 5 => V 5 = .pointer (some ⟨pb, 2, none⟩)
          | 6 => V 6 = .slice v.A2 d.marks.length v.c2
          | 7 => w'.ownsRow wA.heap.size TBB 1 (V 7) d.marks.length (d.marks.map Value.bool)
          | 8 => V 8 = .pointer (some ⟨pb, 3, none⟩)
          | 9 => V 9 = .slice v.A3 d.states.length v.c3
          | 10 => w'.ownsRow wA.heap.size TII 1 (V 10) d.states.length (d.states.map (Value.int .i64))
          | 11 => ∃ s, V 11 = .slice (some ⟨s, 0, none⟩) 0 0 ∧ Blk w' s TBB [] ∧ wA.heap.size ≤ s
          | 12 => V 12 = .pointer (some ⟨pb, 4, none⟩)
          | 13 => V 13 = .slice v.A4 d.frozen.length v.c4
          | 14 => w'.ownsRow wA.heap.size TBB 1 (V 14) d.frozen.length (d.frozen.map Value.bool)
          | 15 => V 15 = .agg #[.slice Af d.fields.length cf, V 3, V 7, V 10, V 14]
          | _ => True) rfl (by kernel_rfl) (by kernel_rfl) (by kernel_rfl) (by kernel_rfl) (by kernel_rfl) (by kernel_rfl) (by kernel_rfl) (by kernel_rfl) ?_ ?_ ?_ ?_
      · intro e he V V' w' h hp
        simp only [List.mem_cons, List.not_mem_nil, or_false] at he
        rcases he with rfl | rfl | rfl | rfl | rfl | rfl | rfl | rfl | rfl | rfl | rfl | rfl | rfl | rfl | rfl | rfl
        · simp only [← h 0 (.inl rfl)]; exact hp
        · simp only [← h 1 (.inl rfl)]; exact hp
        · simp only [← h 2 (.inl rfl)]; exact hp
        · simp only [← h 3 (.inl rfl)]; exact hp
        · simp only [← h 4 (.inl rfl)]; exact hp
        · simp only [← h 5 (.inl rfl)]; exact hp
        · simp only [← h 6 (.inl rfl)]; exact hp
        · simp only [← h 7 (.inl rfl)]; exact hp
        · simp only [← h 8 (.inl rfl)]; exact hp
        · simp only [← h 9 (.inl rfl)]; exact hp
        · simp only [← h 10 (.inl rfl)]; exact hp
        · simp only [← h 11 (.inl rfl)]; exact hp
        · simp only [← h 12 (.inl rfl)]; exact hp
        · simp only [← h 13 (.inl rfl)]; exact hp
        · simp only [← h 14 (.inl rfl)]; exact hp
        · simp only [← h 15 (.inl rfl), ← h 3 (.inr (by kernel_rfl)), ← h 7 (.inr (by kernel_rfl)), ← h 10 (.inr (by kernel_rfl)), ← h 14 (.inr (by kernel_rfl))]; exact hp
      · intro e he V w1 w2 hp hb
        simp only [List.mem_cons, List.not_mem_nil, or_false] at he
        rcases he with rfl | rfl | rfl | rfl | rfl | rfl | rfl | rfl | rfl | rfl | rfl | rfl | rfl | rfl | rfl | rfl
        · exact hp
        · exact hp
        · exact hp
        · exact owns_fr hp (Fr.of_below0 (S := fun _ => False) hb) (fun _ _ => id)
        · exact let ⟨s, h1, h2, h3⟩ := hp; ⟨s, h1, (Fr.of_below0 (S := fun _ => False) hb).blk h2 id, h3⟩
        · exact hp
        · exact hp
        · exact owns_fr hp (Fr.of_below0 (S := fun _ => False) hb) (fun _ _ => id)
        · exact hp
        · exact hp
        · exact owns_fr hp (Fr.of_below0 (S := fun _ => False) hb) (fun _ _ => id)
        · exact let ⟨s, h1, h2, h3⟩ := hp; ⟨s, h1, (Fr.of_below0 (S := fun _ => False) hb).blk h2 id, h3⟩
        · exact hp
        · exact hp
        · exact owns_fr hp (Fr.of_below0 (S := fun _ => False) hb) (fun _ _ => id)
        · exact hp
      · intro e he
        simp only [List.mem_cons, List.not_mem_nil, or_false] at he
        rcases he with rfl | rfl | rfl | rfl | rfl | rfl | rfl | rfl | rfl | rfl | rfl | rfl | rfl | rfl | rfl | rfl
        · intro V a w' hd ho hB
          have e3 : a.tmps[3]? = some (.slice Af d.fields.length cf) := (ho 3 (by decide)).trans rfl
          refine ⟨_, rfl, rfl, fun K hK => ?_⟩
          clear hd ho
          refine value_ (w1 := w') (v := .slice Af d.fields.length cf) rfl rfl ?_ (hK.out _ _ (Below.refl _ _) (setV_self _ _ _) (fun h => absurd h (by decide)))
          go_simp
        · intro V a w' hd ho hB
          have e1 : a.tmps[1]? = some (.pointer (some ⟨pb, 0, none⟩)) := (ho 1 (by decide)).trans rfl
          refine ⟨_, rfl, rfl, fun K hK => ?_⟩
          clear hd ho
          refine value_ (w1 := w') (v := .pointer (some ⟨pb, 1, none⟩)) rfl rfl ?_ (hK.out _ _ (Below.refl _ _) (setV_self _ _ _) (fun h => absurd h (by decide)))
          go_simp
        · intro V a w' hd ho hB
          obtain ⟨e22, p22, o22⟩ := hd (1, 22) (by decide) (by kernel_rfl)
          rw [show V 1 = .pointer (some ⟨pb, 1, none⟩) from p22] at e22
          have hc := (HC1.out w' hB)
          refine ⟨_, rfl, rfl, fun K hK => ?_⟩
          clear hd ho
          refine value_ (w1 := w') (v := .slice v.A1 d.infos.length v.c1) rfl rfl ?_ (hK.out _ _ (Below.refl _ _) (setV_self _ _ _) (fun h => absurd h (by decide)))
          go_simp
        · intro V a w' hd ho hB
          obtain ⟨e23, p23, o23⟩ := hd (2, 23) (by decide) (by kernel_rfl)
          rw [show V 2 = .slice v.A1 d.infos.length v.c1 from p23] at e23
          refine ⟨_, rfl, rfl, fun K hK => ?_⟩
          refine goes_ Try.func65 (by kernel_rfl) rfl #[.slice v.A1 d.infos.length v.c1] (by rfl) rfl rfl (by simp [eval_of e23]) ?_
          refine (ref02_Copy w' _ _ _ (HR1.out w' hB) (by have := HL.out; omega)).mono ?_
          rintro e w2 ⟨v1, rfl, hown, hbl⟩
          exact ⟨_, rfl, hK.out _ _ hbl (by show w2.ownsRow _ _ _ (setV V 3 v1 3) _ _; rw [setV_self]; exact own_weaken hown hB.size) (fun _ k hk => ⟨(World.ownsRow.lt hown k hk).2, .inl (World.ownsRow.lt hown k hk).1⟩)⟩
        · intro V a w' hd ho hB
          refine ⟨_, rfl, rfl, fun K hK => ?_⟩
          refine value_ (w1 := w'.alloc (.cells #[] 4)) (v := .slice (some ⟨w'.heap.size, 0, none⟩) 0 0) rfl rfl ?_ (hK.out _ _ ((Below.refl _ _).alloc (Nat.le_refl _) _) ⟨w'.heap.size, setV_self _ _ _, Blk.new w' TBB [], hB.size⟩ (fun _ k hk => ?_))
          · clear hd ho hK; go_simp
          · have hk' : k = w'.heap.size := by simpa [Value.ownBlock] using hk.symm
            subst hk'
            exact ⟨by simp, .inl (Nat.le_refl _)⟩
        · intro V a w' hd ho hB
          have e1 : a.tmps[1]? = some (.pointer (some ⟨pb, 0, none⟩)) := (ho 1 (by decide)).trans rfl
          refine ⟨_, rfl, rfl, fun K hK => ?_⟩
          clear hd ho
          refine value_ (w1 := w') (v := .pointer (some ⟨pb, 2, none⟩)) rfl rfl ?_ (hK.out _ _ (Below.refl _ _) (setV_self _ _ _) (fun h => absurd h (by decide)))
          go_simp
        · intro V a w' hd ho hB
          obtain ⟨e26, p26, o26⟩ := hd (5, 26) (by decide) (by kernel_rfl)
          rw [show V 5 = .pointer (some ⟨pb, 2, none⟩) from p26] at e26
          have hc := (HC2.out w' hB)
          refine ⟨_, rfl, rfl, fun K hK => ?_⟩
          clear hd ho
          refine value_ (w1 := w') (v := .slice v.A2 d.marks.length v.c2) rfl rfl ?_ (hK.out _ _ (Below.refl _ _) (setV_self _ _ _) (fun h => absurd h (by decide)))
          go_simp
        · intro V a w' hd ho hB
          obtain ⟨e25, p25, o25⟩ := hd (4, 25) (by decide) (by kernel_rfl)
          obtain ⟨e27, p27, o27⟩ := hd (6, 27) (by decide) (by kernel_rfl)
          rw [show V 6 = .slice v.A2 d.marks.length v.c2 from p27] at e27
          refine ⟨_, rfl, rfl, fun K hK => ?_⟩
          obtain ⟨s, hs, hbk, hle⟩ := p25
          rw [hs] at e25
          obtain ⟨v1, w1, hrun, hbl, hown, hfp⟩ := run_append_lit (P := Try.prog) (w := w') (s := s) 24 24 4 (.bool false) 1 Try.underlying24 winfo_bool rfl hbk (HR2.out w' hB) (one_bool _) (by simp only [maxLen]; have := HL.out; omega) (by have := HL.out; omega) wA.heap.size hle
          refine value_ (w1 := w1) (v := v1) rfl rfl (append_exec rfl (eval_of e25) (eval_of e27) hrun) (hK.out _ _ hbl (by show w1.ownsRow _ _ _ (setV V 7 v1 7) _ _; rw [setV_self]; exact hown) (fun _ k hk => ?_))
          obtain ⟨h1, h2⟩ := hfp k hk
          refine ⟨h1, ?_⟩
          rcases h2 with h2 | h2
          · exact .inl h2
          · exact .inr ⟨(4, 25), by decide, by kernel_rfl, rfl, by show (V 4).ownBlock = _; rw [hs, h2]; rfl⟩
        · intro V a w' hd ho hB
          have e1 : a.tmps[1]? = some (.pointer (some ⟨pb, 0, none⟩)) := (ho 1 (by decide)).trans rfl
          refine ⟨_, rfl, rfl, fun K hK => ?_⟩
          clear hd ho
          refine value_ (w1 := w') (v := .pointer (some ⟨pb, 3, none⟩)) rfl rfl ?_ (hK.out _ _ (Below.refl _ _) (setV_self _ _ _) (fun h => absurd h (by decide)))
          go_simp
        · intro V a w' hd ho hB
          obtain ⟨e29, p29, o29⟩ := hd (8, 29) (by decide) (by kernel_rfl)
          rw [show V 8 = .pointer (some ⟨pb, 3, none⟩) from p29] at e29
          have hc := (HC3.out w' hB)
          refine ⟨_, rfl, rfl, fun K hK => ?_⟩
          clear hd ho
          refine value_ (w1 := w') (v := .slice v.A3 d.states.length v.c3) rfl rfl ?_ (hK.out _ _ (Below.refl _ _) (setV_self _ _ _) (fun h => absurd h (by decide)))
          go_simp
        · intro V a w' hd ho hB
          obtain ⟨e30, p30, o30⟩ := hd (9, 30) (by decide) (by kernel_rfl)
          rw [show V 9 = .slice v.A3 d.states.length v.c3 from p30] at e30
          refine ⟨_, rfl, rfl, fun K hK => ?_⟩
          refine goes_ Try.func65 (by kernel_rfl) rfl #[.slice v.A3 d.states.length v.c3] (by rfl) rfl rfl (by simp [eval_of e30]) ?_
          refine (ref02_Copy w' _ _ _ (HR3.out w' hB) (by have := HL.out; omega)).mono ?_
          rintro e w2 ⟨v1, rfl, hown, hbl⟩
          exact ⟨_, rfl, hK.out _ _ hbl (by show w2.ownsRow _ _ _ (setV V 10 v1 10) _ _; rw [setV_self]; exact own_weaken hown hB.size) (fun _ k hk => ⟨(World.ownsRow.lt hown k hk).2, .inl (World.ownsRow.lt hown k hk).1⟩)⟩
        · intro V a w' hd ho hB
          refine ⟨_, rfl, rfl, fun K hK => ?_⟩
          refine value_ (w1 := w'.alloc (.cells #[] 4)) (v := .slice (some ⟨w'.heap.size, 0, none⟩) 0 0) rfl rfl ?_ (hK.out _ _ ((Below.refl _ _).alloc (Nat.le_refl _) _) ⟨w'.heap.size, setV_self _ _ _, Blk.new w' TBB [], hB.size⟩ (fun _ k hk => ?_))
          · clear hd ho hK; go_simp
          · have hk' : k = w'.heap.size := by simpa [Value.ownBlock] using hk.symm
            subst hk'
            exact ⟨by simp, .inl (Nat.le_refl _)⟩
        · intro V a w' hd ho hB
          have e1 : a.tmps[1]? = some (.pointer (some ⟨pb, 0, none⟩)) := (ho 1 (by decide)).trans rfl
          refine ⟨_, rfl, rfl, fun K hK => ?_⟩
          clear hd ho
          refine value_ (w1 := w') (v := .pointer (some ⟨pb, 4, none⟩)) rfl rfl ?_ (hK.out _ _ (Below.refl _ _) (setV_self _ _ _) (fun h => absurd h (by decide)))
          go_simp
        · intro V a w' hd ho hB
          obtain ⟨e33, p33, o33⟩ := hd (12, 33) (by decide) (by kernel_rfl)
          rw [show V 12 = .pointer (some ⟨pb, 4, none⟩) from p33] at e33
          have hc := (HC4.out w' hB)
          refine ⟨_, rfl, rfl, fun K hK => ?_⟩
          clear hd ho
          refine value_ (w1 := w') (v := .slice v.A4 d.frozen.length v.c4) rfl rfl ?_ (hK.out _ _ (Below.refl _ _) (setV_self _ _ _) (fun h => absurd h (by decide)))
          go_simp
        · intro V a w' hd ho hB
          obtain ⟨e32, p32, o32⟩ := hd (11, 32) (by decide) (by kernel_rfl)
          obtain ⟨e34, p34, o34⟩ := hd (13, 34) (by decide) (by kernel_rfl)
          rw [show V 13 = .slice v.A4 d.frozen.length v.c4 from p34] at e34
          refine ⟨_, rfl, rfl, fun K hK => ?_⟩
          obtain ⟨s, hs, hbk, hle⟩ := p32
          rw [hs] at e32
          obtain ⟨v1, w1, hrun, hbl, hown, hfp⟩ := run_append_lit (P := Try.prog) (w := w') (s := s) 24 24 4 (.bool false) 1 Try.underlying24 winfo_bool rfl hbk (HR4.out w' hB) (one_bool _) (by simp only [maxLen]; have := HL.out; omega) (by have := HL.out; omega) wA.heap.size hle
          refine value_ (w1 := w1) (v := v1) rfl rfl (append_exec rfl (eval_of e32) (eval_of e34) hrun) (hK.out _ _ hbl (by show w1.ownsRow _ _ _ (setV V 14 v1 14) _ _; rw [setV_self]; exact hown) (fun _ k hk => ?_))
          obtain ⟨h1, h2⟩ := hfp k hk
          refine ⟨h1, ?_⟩
          rcases h2 with h2 | h2
          · exact .inl h2
          · exact .inr ⟨(11, 32), by decide, by kernel_rfl, rfl, by show (V 11).ownBlock = _; rw [hs, h2]; rfl⟩
        · intro V a w' hd ho hB
          obtain ⟨e21, p21, o21⟩ := hd (0, 21) (by decide) (by kernel_rfl)
          rw [show V 0 = .slice Af d.fields.length cf from p21] at e21
          obtain ⟨e24, p24, o24⟩ := hd (3, 24) (by decide) (by kernel_rfl)
          obtain ⟨e28, p28, o28⟩ := hd (7, 28) (by decide) (by kernel_rfl)
          obtain ⟨e31, p31, o31⟩ := hd (10, 31) (by decide) (by kernel_rfl)
          obtain ⟨e35, p35, o35⟩ := hd (14, 35) (by decide) (by kernel_rfl)
          obtain ⟨A1, c1, x1, _, _⟩ := owns_slice p24
          obtain ⟨A2, c2, x2, _, _⟩ := owns_slice p28
          obtain ⟨A3, c3, x3, _, _⟩ := owns_slice p31
          obtain ⟨A4, c4, x4, _, _⟩ := owns_slice p35
          rw [x1] at e24
          rw [x2] at e28
          rw [x3] at e31
          rw [x4] at e35
          refine ⟨_, rfl, rfl, fun K hK => ?_⟩
          refine value_ (w1 := w') (v := .agg #[.slice Af d.fields.length cf, V 3, V 7, V 10, V 14]) rfl rfl ?_ (hK.out _ _ (Below.refl _ _) (setV_self _ _ _) (fun h => absurd h (by decide)))
          clear hd ho hK
          rw [x1, x2, x3, x4]
          go_simp
      · intro V a w' hfr hB hP hap hlt
        have P0 := hP (0, 21) (by decide)
        have P1 := hP (1, 22) (by decide)
        have P2 := hP (2, 23) (by decide)
        have P3 := hP (3, 24) (by decide)
        have P4 := hP (4, 25) (by decide)
        have P5 := hP (5, 26) (by decide)
        have P6 := hP (6, 27) (by decide)
        have P7 := hP (7, 28) (by decide)
        have P8 := hP (8, 29) (by decide)
        have P9 := hP (9, 30) (by decide)
        have P10 := hP (10, 31) (by decide)
        have P11 := hP (11, 32) (by decide)
        have P12 := hP (12, 33) (by decide)
        have P13 := hP (13, 34) (by decide)
        have P14 := hP (14, 35) (by decide)
        have P15 := hP (15, 36) (by decide)
        clear hP
        have hrs := HBL2.out.below hB HBL2.out.lt
        subst hfr
        simp only [vrows, List.map_cons, List.map_nil, putSel, if_true, Act.put, List.setIfInBounds_toArray, List.set_cons_zero, List.set_cons_succ]
        have hst := run_store_run (P := Try.prog) (w := w') (g := pb + 1) (o := 0) TRW3 (.agg #[.slice Af d.fields.length cf, V 3, V 7, V 10, V 14]) [.slice Af d.fields.length cf, V 3, V 7, V 10, V 14] hrs rfl wsizeR3 (by simp) (by obtain ⟨A1, c1, x1, _, _⟩ := owns_slice P3; obtain ⟨A2, c2, x2, _, _⟩ := owns_slice P7; obtain ⟨A3, c3, x3, _, _⟩ := owns_slice P10; obtain ⟨A4, c4, x4, _, _⟩ := owns_slice P14; rw [x1, x2, x3, x4]; intro q hq; simp only [List.mem_cons, List.not_mem_nil, or_false] at hq; rcases hq with rfl | rfl | rfl | rfl | rfl <;> rfl)
        refine seq_skip rfl rfl rfl (store_exec rfl (eval_of rfl) (eval_of (by exact congrArg some P15)) hst) ?_
        obtain ⟨hgz, hfz⟩ := res_end3 (cs := []) hrs (.slice Af d.fields.length cf) (V 3) (V 7) (V 10) (V 14) _ rfl
        have HZ := Lib.hid (show OutW w.heap.size d (.slice Af d.fields.length cf) (V 3) (V 7) (V 10) (V 14) us _ from (cp_out HOUTA.out hB HBA.out.size P3 P7 P10 P14 (hap (3, 24) (by decide) (10, 31) (by decide) (by decide)) (hap (7, 28) (by decide) (14, 35) (by decide) (by decide))).other hfz (fun k hk => ⟨TRW3, _, hk ▸ hrs, by decide, by decide, by decide⟩))
        have HPBz := HPB.out
        have HBZ := Lib.hid ((HBA.out.trans (hB.mono HBA.out.size)).trans (hfz.below (Nat.le_trans HBA.out.size hB.size) (fun k hk => by rw [hk]; omega)))
        have HGZ := Lib.hid hgz
        obtain ⟨A1, c1, x1, _, _⟩ := owns_slice P3
        obtain ⟨A2, c2, x2, _, _⟩ := owns_slice P7
        obtain ⟨A3, c3, x3, _, _⟩ := owns_slice P10
        obtain ⟨A4, c4, x4, _, _⟩ := owns_slice P14
        clear hst hgz hfz hap hlt P0 P1 P2 P3 P4 P5 P6 P7 P8 P9 P10 P11 P12 P13 P14 P15 HC1 HC2 HC3 HC4 HR1 HR2 HR3 HR4 hB hrs HBL2 HOUTA HBA HPBz
        refine seq_nil ?_
        go_wp2
        (try simp only [Exit.inBlock, Exit.then])
        refine bodyPost_ret (results_cell_row rfl _ _ (pb + 1) TRW3 _ (0, 0) _ rfl HGZ.out Try.underlying26 rfl wsizeR3) rfl ?_
        exact HQ'.out _ _ ⟨_, _, _, _, _, us, rfl, HZ.out, HBZ.out⟩
end Go.Proofs.Ytphhdmopfmelbaa
