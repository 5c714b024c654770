-- PRINTED BY print.sh 35421559b90ae4d0a3588c463048766b98c2df88dd9212a6774a882060cdf62d: not written by this session
import Derived.Test.YteeficpjggimcaaPChainCallsx0
namespace Go.Proofs.Yteeficpjggimcaa.PChainCalls
open Go.RowKit Go.Proofs.YteeficpjggimcaaW.PrintWords Go.Proofs.YteeficpjggimcaaW.PrintLast Go.Proofs.YteeficpjggimcaaW.PrintMore
attribute [local go_sem] max2_int min2_int max_two min_two max_three min_three max_four min_four   -- for this text's walks alone
set_option linter.unusedVariables false
set_option linter.unusedSimpArgs false

/-! ### larchref06_look: function 23 -/
def larchref06_look.l0 : Nat → List (S56) → Int → Int → Option (Int × Bool)
  | 0, _, _, _ => none
  | k + 1, x0, x1, x6 => if x6 < (x0.length : Int) then (if 0 ≤ x6 then (if ((rd_T56 x0 x6).f0) = x1 then (some ((rd_T56 x0 x6).f1, true)) else (larchref06_look.l0 k x0 x1 (wrap64 (x6 + 1)))) else (none)) else (some (0, false))
def larchref06_look.f (k : Nat) (l0 : List (S56)) (a1 : Int) : Option (Int × Bool) := larchref06_look.l0 k l0 a1 0
theorem larchref06_look.mono_l : ∀ k, (∀ y0 y1 y2, LeO (larchref06_look.l0 k y0 y1 y2) (larchref06_look.l0 (k + 1) y0 y1 y2))
  | 0 => fun _ _ _ r h => by simp [larchref06_look.l0] at h
  | k + 1 => by
    have ih0 := larchref06_look.mono_l k
    · intro y0 y1 y2
      unfold larchref06_look.l0
      repeat' first
      | (with_reducible exact ih0 _ _ _)
      | (with_reducible exact LeO.refl _)
      | (with_reducible exact LeO.none _)
      | (with_reducible refine LeO.ite ?_ ?_)
      | (with_reducible refine LeO.bind ?_ (fun _ => ?_))
      | exact ih0 _ _ _
      | exact LeO.none _
      | refine LeO.ite ?_ ?_
      | refine LeO.bind ?_ (fun _ => ?_)
theorem larchref06_look.mono : ∀ a0 a1 k, LeO (larchref06_look.f k a0 a1) (larchref06_look.f (k + 1) a0 a1) := by
  intro a0 a1 k
  have ih0 := larchref06_look.mono_l k
  unfold larchref06_look.f
  repeat' first
      | (with_reducible exact ih0 _ _ _)
      | (with_reducible exact LeO.refl _)
      | (with_reducible exact LeO.none _)
      | (with_reducible refine LeO.ite ?_ ?_)
      | (with_reducible refine LeO.bind ?_ (fun _ => ?_))
      | exact ih0 _ _ _
      | exact LeO.none _
      | refine LeO.ite ?_ ?_
      | refine LeO.bind ?_ (fun _ => ?_)
set_option maxHeartbeats 8000000 in
set_option maxRecDepth 100000 in
theorem larchref06_look.calls (k : Nat) (A0 : Option Addr) (c0 : Nat) (l0 : List (S56)) (a1 : Int) (r1 : Int) (r2 : Bool) (w : World) (hr0 : Kd.C k56 w A0 l0.length l0) (hc0 : l0.length ≤ c0) (h : larchref06_look.f k l0 a1 = some (r1, r2)) :
    Calls Try.prog 23 #[.slice A0 l0.length c0, .int .i64 a1] w fun e w' => e = .returned (.tuple #[.int .i64 r1, .bool r2]) ∧ Drawn0 w w' := by
  have HR0 := Aside0.mk hr0
  have HC0 := Aside0.mk hc0
  clear hr0 hc0
  have H : (larchref06_look.l0 k l0 a1 0) = some (r1, r2) := h
  clear h
  have H' := Aside0.mk H
  clear H
  go_enter Try.func23, Try.ntmps23
  go_wp2
  go_loopg [6] k (fun kq v6 w' => ∃ (x6_1 : Int), v6 = .int .i64 x6_1 ∧ Aside0 (larchref06_look.l0 kq l0 a1 x6_1 = some (r1, r2)) ∧ Aside0 (kq ≤ k) ∧ Drawn0 w w')
  case atStart => exact ⟨(0), (by first | rfl | (simp; done) | (simp [*]; done)), H', ⟨Nat.le_refl _⟩, by repeat (first | exact Drawn0.refl _ | apply Drawn0.step)⟩
  case round =>
    clear H'
    try clear c2
    try clear p2
    obtain ⟨x6_1, rfl, HA, HK1, ⟨m1, rfl⟩⟩ := hrel
    cases gk with
    | zero => exact absurd HA.out (by simp [larchref06_look.l0])
    | succ k1 =>
      have H := HA.out
      clear HA
      simp only [larchref06_look.l0] at H
      by_cases c3 : x6_1 < (l0.length : Int)
      · rw [if_pos c3] at H
        have c3b0 : decide (x6_1 < (l0.length : Int)) = true := decide_eq_true c3
        clear c3
        by_cases c4 : 0 ≤ x6_1
        · rw [if_pos c4] at H
          have c4b0 : decide (0 ≤ x6_1) = true := decide_eq_true c4
          clear c4
          by_cases c5 : ((rd_T56 l0 x6_1).f0) = a1
          · rw [if_pos c5] at H
            have c5b0 : (((rd_T56 l0 x6_1).f0) == a1) = true := beq_iff_eq.mpr c5
            have c5b1 : (((rd_T56 l0 x6_1).f0) != a1) = false := bne_eq_false_iff_eq.mpr c5
            clear c5
            simp only [Option.some.injEq, Prod.mk.injEq] at H
            obtain ⟨rfl, rfl⟩ := H
            have p148 : 0 ≤ (x6_1 : Int) := of_decide_eq_true (by first | (with_reducible assumption) | assumption)
            have q148 : x6_1 < (l0.length : Int) := of_decide_eq_true (by first | (with_reducible assumption) | assumption)
            obtain ⟨ad148, e148, hx148_0, hx148_1⟩ := at_T56 HR0.out x6_1 p148 q148
            cases e148
            replace p148 := eq_true p148
            replace q148 := eq_true q148
            have p149 : 0 ≤ (x6_1 : Int) := of_decide_eq_true (by first | (with_reducible assumption) | assumption)
            have q149 : x6_1 < (l0.length : Int) := of_decide_eq_true (by first | (with_reducible assumption) | assumption)
            obtain ⟨ad149, e149, hx149_0, hx149_1⟩ := at_T56 HR0.out x6_1 p149 q149
            obtain rfl : ad148 = ad149 := (by injection e149)
            replace p149 := eq_true p149
            replace q149 := eq_true q149
            go_wp2
            go_ret2
            exact ⟨by first | rfl | (simp; done) | (simp [*]; done), by repeat (first | exact Drawn0.refl _ | apply Drawn0.step)⟩
          · rw [if_neg c5] at H
            have c5b0 : (((rd_T56 l0 x6_1).f0) == a1) = false := beq_eq_false_iff_ne.mpr c5
            have c5b1 : (((rd_T56 l0 x6_1).f0) != a1) = true := bne_iff_ne.mpr c5
            have H' := Aside0.mk H
            clear H
            have p148 : 0 ≤ (x6_1 : Int) := of_decide_eq_true (by first | (with_reducible assumption) | assumption)
            have q148 : x6_1 < (l0.length : Int) := of_decide_eq_true (by first | (with_reducible assumption) | assumption)
            obtain ⟨ad148, e148, hx148_0, hx148_1⟩ := at_T56 HR0.out x6_1 p148 q148
            cases e148
            replace p148 := eq_true p148
            replace q148 := eq_true q148
            go_wp2
            go_roundg k1
            case measure => have := HK1.out; omega
            case rel => exact ⟨(wrap64 (x6_1 + 1)), (by first | rfl | (simp; done) | (simp [*]; done)), H', ⟨by have := HK1.out; omega⟩, by repeat (first | exact Drawn0.refl _ | apply Drawn0.step)⟩
        · rw [if_neg c4] at H
          exact absurd H (by simp)
      · rw [if_neg c3] at H
        have c3b0 : decide (x6_1 < (l0.length : Int)) = false := decide_eq_false c3
        clear c3
        simp only [Option.some.injEq, Prod.mk.injEq] at H
        obtain ⟨rfl, rfl⟩ := H
        go_wp2
        go_ret2
        exact ⟨by first | rfl | (simp; done) | (simp [*]; done), by repeat (first | exact Drawn0.refl _ | apply Drawn0.step)⟩

/-! ### larchref06_Inside: function 24 -/
def larchref06_Inside.l0 : Nat → List (S56) → Int → Int → List (S56) → Int → Option ((List (S56)))
  | 0, _, _, _, _, _ => none
  | k + 1, x0, x1, x2, x7, x8 => if x8 < (x0.length : Int) then (if 0 ≤ x8 then (if ((rd_T56 x0 x8).f0) ≥ x1 then (if ((rd_T56 x0 x8).f0) ≤ x2 then (if x7.length < 8796093022208 then (larchref06_Inside.l0 k x0 x1 x2 (x7 ++ [(⟨(rd_T56 x0 x8).f0, (rd_T56 x0 x8).f1⟩ : S56)]) (wrap64 (x8 + 1))) else (none)) else (larchref06_Inside.l0 k x0 x1 x2 x7 (wrap64 (x8 + 1)))) else (larchref06_Inside.l0 k x0 x1 x2 x7 (wrap64 (x8 + 1)))) else (none)) else (some x7)
def larchref06_Inside.f (k : Nat) (l0 : List (S56)) (a1 : Int) (a2 : Int) : Option ((List (S56))) := larchref06_Inside.l0 k l0 a1 a2 ([] : List (S56)) 0
theorem larchref06_Inside.mono_l : ∀ k, (∀ y0 y1 y2 y3 y4, LeO (larchref06_Inside.l0 k y0 y1 y2 y3 y4) (larchref06_Inside.l0 (k + 1) y0 y1 y2 y3 y4))
  | 0 => fun _ _ _ _ _ r h => by simp [larchref06_Inside.l0] at h
  | k + 1 => by
    have ih0 := larchref06_Inside.mono_l k
    · intro y0 y1 y2 y3 y4
      unfold larchref06_Inside.l0
      repeat' first
      | (with_reducible exact ih0 _ _ _ _ _)
      | (with_reducible exact LeO.refl _)
      | (with_reducible exact LeO.none _)
      | (with_reducible refine LeO.ite ?_ ?_)
      | (with_reducible refine LeO.bind ?_ (fun _ => ?_))
      | exact ih0 _ _ _ _ _
      | exact LeO.none _
      | refine LeO.ite ?_ ?_
      | refine LeO.bind ?_ (fun _ => ?_)
theorem larchref06_Inside.mono : ∀ a0 a1 a2 k, LeO (larchref06_Inside.f k a0 a1 a2) (larchref06_Inside.f (k + 1) a0 a1 a2) := by
  intro a0 a1 a2 k
  have ih0 := larchref06_Inside.mono_l k
  unfold larchref06_Inside.f
  repeat' first
      | (with_reducible exact ih0 _ _ _ _ _)
      | (with_reducible exact LeO.refl _)
      | (with_reducible exact LeO.none _)
      | (with_reducible refine LeO.ite ?_ ?_)
      | (with_reducible refine LeO.bind ?_ (fun _ => ?_))
      | exact ih0 _ _ _ _ _
      | exact LeO.none _
      | refine LeO.ite ?_ ?_
      | refine LeO.bind ?_ (fun _ => ?_)
set_option maxHeartbeats 8000000 in
set_option maxRecDepth 100000 in
theorem larchref06_Inside.calls (k : Nat) (A0 : Option Addr) (c0 : Nat) (l0 : List (S56)) (a1 : Int) (a2 : Int) (r : List (S56)) (w : World) (hr0 : Kd.C k56 w A0 l0.length l0) (hc0 : l0.length ≤ c0) (h : larchref06_Inside.f k l0 a1 a2 = some r) :
    Calls Try.prog 24 #[.slice A0 l0.length c0, .int .i64 a1, .int .i64 a2] w fun e w' => ∃ v0_ : Value, e = .returned (v0_) ∧ Kd.R k56 56 w' w.heap.size (fun _ => True) v0_ r ∧ Below w.heap.size w w' := by
  have hu56 := Try.underlying56
  have HR0 := Aside0.mk hr0
  have HC0 := Aside0.mk hc0
  clear hr0 hc0
  have HB := Aside0.mk (Below.refl w.heap.size w)
  have H : (larchref06_Inside.l0 k l0 a1 a2 ([] : List (S56)) 0) = some r := h
  clear h
  have H' := Aside0.mk H
  clear H
  go_enter Try.func24, Try.ntmps24
  go_wp2
  go_loopg [7, 8] k (fun kq v7 v8 w' => ∃ (x7_1 : List (S56)) (x8_1 : Int), v8 = .int .i64 x8_1 ∧ Aside0 (larchref06_Inside.l0 kq l0 a1 a2 x7_1 x8_1 = some r) ∧ Aside0 (kq ≤ k) ∧ Aside0 (Kd.R k56 56 w' w.heap.size (fun _ => True) v7 x7_1) ∧ Aside0 (Below w.heap.size w w'))
  case atStart => exact ⟨(([] : List (S56))), (0), (by first | rfl | (simp; done) | (simp [*]; done)), H', ⟨Nat.le_refl _⟩, ⟨by first | exact Kd.R_nil _ _ _ _ _ | exact Kd.N_nil _ _ _ _ _ | exact Kd.V_nil _ _ _ _ _ | exact Kd.Q_nil _ _ _ _ _ | exact Kd.S_nil _ _ _ _ _⟩, ⟨by repeat (first | (with_reducible first | exact HB.out | apply below_alloc | apply pw_below_drewN | apply below_drew1) | exact HB.out)⟩⟩
  case round =>
    clear H'
    try clear c2
    try clear p2
    obtain ⟨x7_1, x8_1, rfl, HA, HK1, HO_7, HB⟩ := hrel
    cases gk with
    | zero => exact absurd HA.out (by simp [larchref06_Inside.l0])
    | succ k1 =>
      have H := HA.out
      clear HA
      simp only [larchref06_Inside.l0] at H
      by_cases c4 : x8_1 < (l0.length : Int)
      · rw [if_pos c4] at H
        have c4b0 : decide (x8_1 < (l0.length : Int)) = true := decide_eq_true c4
        clear c4
        by_cases c5 : 0 ≤ x8_1
        · rw [if_pos c5] at H
          have c5b0 : decide (0 ≤ x8_1) = true := decide_eq_true c5
          clear c5
          by_cases c6 : ((rd_T56 l0 x8_1).f0) ≥ a1
          · rw [if_pos c6] at H
            have c6b0 : decide (a1 ≤ ((rd_T56 l0 x8_1).f0)) = true := decide_eq_true c6
            clear c6
            by_cases c7 : ((rd_T56 l0 x8_1).f0) ≤ a2
            · rw [if_pos c7] at H
              have c7b0 : decide (((rd_T56 l0 x8_1).f0) ≤ a2) = true := decide_eq_true c7
              clear c7
              by_cases c8 : x7_1.length < 8796093022208
              · rw [if_pos c8] at H
                have LMc8 := Aside0.mk c8
                clear c8
                obtain ⟨y153, hy153⟩ : ∃ y_ : List (S56), y_ = (x7_1 ++ [(⟨(rd_T56 l0 x8_1).f0, (rd_T56 l0 x8_1).f1⟩ : S56)]) := ⟨_, rfl⟩
                replace H : (larchref06_Inside.l0 k1 l0 a1 a2 y153 (wrap64 (x8_1 + 1))) = some r := by first | (rw [hy153]; with_reducible exact H) | (have H2_ := (Option.bind_some _ _).symm.trans H; rw [hy153]; with_reducible exact H2_) | (have H2_ := (Option.bind_some _ _).symm.trans H; with_reducible exact H2_) | with_reducible exact H | (rw [hy153]; exact H) | exact H
                have Ny153 := Aside0.mk hy153
                clear hy153
                have H' := Aside0.mk H
                clear H
                have p150 : 0 ≤ (x8_1 : Int) := of_decide_eq_true (by first | (with_reducible assumption) | assumption)
                have q150 : x8_1 < (l0.length : Int) := of_decide_eq_true (by first | (with_reducible assumption) | assumption)
                obtain ⟨ad150, e150, hx150_0, hx150_1⟩ := at_T56 HR0.out x8_1 p150 q150
                cases e150
                replace hx150_0 := (HB.out.cell (World.block_lt_of_cell? w _ hx150_0)).trans hx150_0
                replace hx150_1 := (HB.out.cell (World.block_lt_of_cell? w _ hx150_1)).trans hx150_1
                replace p150 := eq_true p150
                replace q150 := eq_true q150
                have p151 : 0 ≤ (x8_1 : Int) := of_decide_eq_true (by first | (with_reducible assumption) | assumption)
                have q151 : x8_1 < (l0.length : Int) := of_decide_eq_true (by first | (with_reducible assumption) | assumption)
                obtain ⟨ad151, e151, hx151_0, hx151_1⟩ := at_T56 HR0.out x8_1 p151 q151
                obtain rfl : ad150 = ad151 := (by injection e151)
                replace hx151_0 := (HB.out.cell (World.block_lt_of_cell? w _ hx151_0)).trans hx151_0
                replace hx151_1 := (HB.out.cell (World.block_lt_of_cell? w _ hx151_1)).trans hx151_1
                replace p151 := eq_true p151
                replace q151 := eq_true q151
                have p152 : 0 ≤ (x8_1 : Int) := of_decide_eq_true (by first | (with_reducible assumption) | assumption)
                have q152 : x8_1 < (l0.length : Int) := of_decide_eq_true (by first | (with_reducible assumption) | assumption)
                obtain ⟨ad152, e152, hx152_0, hx152_1⟩ := at_T56 HR0.out x8_1 p152 q152
                obtain rfl : ad150 = ad152 := (by injection e152)
                replace hx152_0 := (HB.out.cell (World.block_lt_of_cell? w _ hx152_0)).trans hx152_0
                replace hx152_1 := (HB.out.cell (World.block_lt_of_cell? w _ hx152_1)).trans hx152_1
                replace p152 := eq_true p152
                replace q152 := eq_true q152
                go_wp2_with (first | ((with_reducible refine gate_builtin (b := .append) (xs := #[.tmp 31, .tmp 36]) rfl ?_); at_builtin; refine Kd.R_append k56 (w0 := w) w.heap.size rfl (.tmp 31) (.tmp 36) 22 56 (.agg #[(.int .i64 0), (.int .i64 0)]) 16 rfl Try.underlying22 info56 rfl (by decide) (by omega) u7 x7_1 (⟨(rd_T56 l0 x8_1).f0, (rd_T56 l0 x8_1).f1⟩ : S56) [.int .i64 ((rd_T56 l0 x8_1).f0), .int .i64 ((rd_T56 l0 x8_1).f1)] (fun _ => True) (fun _ => False) rfl rfl ?aP (fun _ hk => hk.elim) ?aF ?aO ?aB ?aS ?aL ?_; (case aP => exact k56_mkM _ _ _ (⟨(rd_T56 l0 x8_1).f0, (rd_T56 l0 x8_1).f1⟩ : S56)); (case aB => exact (by repeat (first | (with_reducible first | exact HB.out | apply below_alloc | apply pw_below_drewN | apply below_drew1) | exact HB.out))); (case aF => exact (fun _ _ => trivial)); (case aO => exact (by (with_reducible repeat (first | apply Kd.R_alloc | apply Kd.R_drewN | apply Kd.R_drew)); exact HO_7.out)); (case aS => exact (below_size (by repeat (first | (with_reducible first | exact HB.out | apply below_alloc | apply pw_below_drewN | apply below_drew1) | exact HB.out)))); (case aL => have := LMc8.out; omega); intro v154 w9 ho hb hg hat; rw [← Ny153.out] at ho; have n0_ := Aside0.mk (hb); have n1_ := Aside0.mk (ho); clear HB; clear HO_7; have HB := n0_; have HO155 := n1_; clear n0_ n1_; clear ho hb hg hat))
                go_roundg k1
                case measure => have := HK1.out; omega
                case rel => exact ⟨(y153), (wrap64 (x8_1 + 1)), (by first | rfl | (simp; done) | (simp [*]; done)), H', ⟨by have := HK1.out; omega⟩, ⟨by (with_reducible repeat (first | apply Kd.R_alloc | apply Kd.R_drewN | apply Kd.R_drew)); exact HO155.out⟩, ⟨by repeat (first | (with_reducible first | exact HB.out | apply below_alloc | apply pw_below_drewN | apply below_drew1) | exact HB.out)⟩⟩
              · rw [if_neg c8] at H
                exact absurd H (by simp)
            · rw [if_neg c7] at H
              have c7b0 : decide (((rd_T56 l0 x8_1).f0) ≤ a2) = false := decide_eq_false c7
              clear c7
              have H' := Aside0.mk H
              clear H
              have p150 : 0 ≤ (x8_1 : Int) := of_decide_eq_true (by first | (with_reducible assumption) | assumption)
              have q150 : x8_1 < (l0.length : Int) := of_decide_eq_true (by first | (with_reducible assumption) | assumption)
              obtain ⟨ad150, e150, hx150_0, hx150_1⟩ := at_T56 HR0.out x8_1 p150 q150
              cases e150
              replace hx150_0 := (HB.out.cell (World.block_lt_of_cell? w _ hx150_0)).trans hx150_0
              replace hx150_1 := (HB.out.cell (World.block_lt_of_cell? w _ hx150_1)).trans hx150_1
              replace p150 := eq_true p150
              replace q150 := eq_true q150
              have p151 : 0 ≤ (x8_1 : Int) := of_decide_eq_true (by first | (with_reducible assumption) | assumption)
              have q151 : x8_1 < (l0.length : Int) := of_decide_eq_true (by first | (with_reducible assumption) | assumption)
              obtain ⟨ad151, e151, hx151_0, hx151_1⟩ := at_T56 HR0.out x8_1 p151 q151
              obtain rfl : ad150 = ad151 := (by injection e151)
              replace hx151_0 := (HB.out.cell (World.block_lt_of_cell? w _ hx151_0)).trans hx151_0
              replace hx151_1 := (HB.out.cell (World.block_lt_of_cell? w _ hx151_1)).trans hx151_1
              replace p151 := eq_true p151
              replace q151 := eq_true q151
              go_wp2
              go_roundg k1
              case measure => have := HK1.out; omega
              case rel => exact ⟨(x7_1), (wrap64 (x8_1 + 1)), (by first | rfl | (simp; done) | (simp [*]; done)), H', ⟨by have := HK1.out; omega⟩, ⟨by (with_reducible repeat (first | apply Kd.R_alloc | apply Kd.R_drewN | apply Kd.R_drew)); exact HO_7.out⟩, ⟨by repeat (first | (with_reducible first | exact HB.out | apply below_alloc | apply pw_below_drewN | apply below_drew1) | exact HB.out)⟩⟩
          · rw [if_neg c6] at H
            have c6b0 : decide (a1 ≤ ((rd_T56 l0 x8_1).f0)) = false := decide_eq_false c6
            clear c6
            have H' := Aside0.mk H
            clear H
            have p150 : 0 ≤ (x8_1 : Int) := of_decide_eq_true (by first | (with_reducible assumption) | assumption)
            have q150 : x8_1 < (l0.length : Int) := of_decide_eq_true (by first | (with_reducible assumption) | assumption)
            obtain ⟨ad150, e150, hx150_0, hx150_1⟩ := at_T56 HR0.out x8_1 p150 q150
            cases e150
            replace hx150_0 := (HB.out.cell (World.block_lt_of_cell? w _ hx150_0)).trans hx150_0
            replace hx150_1 := (HB.out.cell (World.block_lt_of_cell? w _ hx150_1)).trans hx150_1
            replace p150 := eq_true p150
            replace q150 := eq_true q150
            go_wp2
            go_roundg k1
            case measure => have := HK1.out; omega
            case rel => exact ⟨(x7_1), (wrap64 (x8_1 + 1)), (by first | rfl | (simp; done) | (simp [*]; done)), H', ⟨by have := HK1.out; omega⟩, ⟨by (with_reducible repeat (first | apply Kd.R_alloc | apply Kd.R_drewN | apply Kd.R_drew)); exact HO_7.out⟩, ⟨by repeat (first | (with_reducible first | exact HB.out | apply below_alloc | apply pw_below_drewN | apply below_drew1) | exact HB.out)⟩⟩
        · rw [if_neg c5] at H
          exact absurd H (by simp)
      · rw [if_neg c4] at H
        have c4b0 : decide (x8_1 < (l0.length : Int)) = false := decide_eq_false c4
        clear c4
        obtain rfl := Option.some.inj H
        go_wp2
        go_ret
        exact ⟨_, by first | rfl | (simp [errW_none, errW_some] <;> rfl) | (simp [*, errW_none, errW_some] <;> rfl), by (with_reducible repeat (first | apply Kd.R_alloc | apply Kd.R_drewN | apply Kd.R_drew)); exact HO_7.out, by repeat (first | (with_reducible first | exact HB.out | apply below_alloc | apply pw_below_drewN | apply below_drew1) | exact HB.out)⟩

/-! ### larchref06_with: function 25 -/
mutual
def larchref06_with.l0 : Nat → List (S56) → Int → Int → List (S56) → Bool → Int → Option ((List (S56)))
  | 0, _, _, _, _, _, _ => none
  | k + 1, x0, x1, x2, x9, x10, x11 => if x11 < (x0.length : Int) then (if x10 = true then (larchref06_with.j1 k x0 x1 x2 x9 x10 x11 false) else (if 0 ≤ x11 then (larchref06_with.j1 k x0 x1 x2 x9 x10 x11 (decide (((rd_T56 x0 x11).f0) ≥ x1))) else (none))) else (if x10 = true then (some x9) else (if x9.length < 8796093022208 then (some (x9 ++ [(⟨x1, x2⟩ : S56)])) else (none)))
def larchref06_with.j1 : Nat → List (S56) → Int → Int → List (S56) → Bool → Int → Bool → Option ((List (S56)))
  | 0, _, _, _, _, _, _, _ => none
  | k + 1, x0, x1, x2, x9, x10, x11, x29 => if x29 = true then (if x9.length < 8796093022208 then ((some (x9 ++ [(⟨x1, x2⟩ : S56)] : List (S56))).bind fun y160 => (if 0 ≤ x11 then (if x11 < (x0.length : Int) then (if ((rd_T56 x0 x11).f0) = x1 then (larchref06_with.l0 k x0 x1 x2 y160 true (wrap64 (x11 + 1))) else (if y160.length < 8796093022208 then (larchref06_with.l0 k x0 x1 x2 (y160 ++ [(⟨(rd_T56 x0 x11).f0, (rd_T56 x0 x11).f1⟩ : S56)]) true (wrap64 (x11 + 1))) else (none))) else (none)) else (none))) else (none)) else (if 0 ≤ x11 then (if x11 < (x0.length : Int) then (if ((rd_T56 x0 x11).f0) = x1 then (larchref06_with.l0 k x0 x1 x2 x9 x10 (wrap64 (x11 + 1))) else (if x9.length < 8796093022208 then (larchref06_with.l0 k x0 x1 x2 (x9 ++ [(⟨(rd_T56 x0 x11).f0, (rd_T56 x0 x11).f1⟩ : S56)]) x10 (wrap64 (x11 + 1))) else (none))) else (none)) else (none))
end
def larchref06_with.f (k : Nat) (l0 : List (S56)) (a1 : Int) (a2 : Int) (a3 : Bool) : Option ((List (S56))) := larchref06_with.l0 k l0 a1 a2 ([] : List (S56)) a3 0
theorem larchref06_with.mono_l : ∀ k, (∀ y0 y1 y2 y3 y4 y5, LeO (larchref06_with.l0 k y0 y1 y2 y3 y4 y5) (larchref06_with.l0 (k + 1) y0 y1 y2 y3 y4 y5)) ∧ (∀ y0 y1 y2 y3 y4 y5 y6, LeO (larchref06_with.j1 k y0 y1 y2 y3 y4 y5 y6) (larchref06_with.j1 (k + 1) y0 y1 y2 y3 y4 y5 y6))
  | 0 => ⟨fun _ _ _ _ _ _ r h => by simp [larchref06_with.l0] at h, fun _ _ _ _ _ _ _ r h => by simp [larchref06_with.j1] at h⟩
  | k + 1 => by
    obtain ⟨ih0, ih1⟩ := larchref06_with.mono_l k
    refine ⟨?_, ?_⟩
    · intro y0 y1 y2 y3 y4 y5
      unfold larchref06_with.l0
      repeat' first
      | (with_reducible exact ih0 _ _ _ _ _ _)
      | (with_reducible exact ih1 _ _ _ _ _ _ _)
      | (with_reducible exact LeO.refl _)
      | (with_reducible exact LeO.none _)
      | (with_reducible refine LeO.ite ?_ ?_)
      | (with_reducible refine LeO.bind ?_ (fun _ => ?_))
      | exact ih0 _ _ _ _ _ _
      | exact ih1 _ _ _ _ _ _ _
      | exact LeO.none _
      | refine LeO.ite ?_ ?_
      | refine LeO.bind ?_ (fun _ => ?_)
    · intro y0 y1 y2 y3 y4 y5 y6
      unfold larchref06_with.j1
      repeat' first
      | (with_reducible exact ih0 _ _ _ _ _ _)
      | (with_reducible exact ih1 _ _ _ _ _ _ _)
      | (with_reducible exact LeO.refl _)
      | (with_reducible exact LeO.none _)
      | (with_reducible refine LeO.ite ?_ ?_)
      | (with_reducible refine LeO.bind ?_ (fun _ => ?_))
      | exact ih0 _ _ _ _ _ _
      | exact ih1 _ _ _ _ _ _ _
      | exact LeO.none _
      | refine LeO.ite ?_ ?_
      | refine LeO.bind ?_ (fun _ => ?_)
theorem larchref06_with.mono : ∀ a0 a1 a2 a3 k, LeO (larchref06_with.f k a0 a1 a2 a3) (larchref06_with.f (k + 1) a0 a1 a2 a3) := by
  intro a0 a1 a2 a3 k
  obtain ⟨ih0, ih1⟩ := larchref06_with.mono_l k
  unfold larchref06_with.f
  repeat' first
      | (with_reducible exact ih0 _ _ _ _ _ _)
      | (with_reducible exact ih1 _ _ _ _ _ _ _)
      | (with_reducible exact LeO.refl _)
      | (with_reducible exact LeO.none _)
      | (with_reducible refine LeO.ite ?_ ?_)
      | (with_reducible refine LeO.bind ?_ (fun _ => ?_))
      | exact ih0 _ _ _ _ _ _
      | exact ih1 _ _ _ _ _ _ _
      | exact LeO.none _
      | refine LeO.ite ?_ ?_
      | refine LeO.bind ?_ (fun _ => ?_)
set_option maxHeartbeats 8000000 in
set_option maxRecDepth 100000 in
theorem larchref06_with.calls (k : Nat) (A0 : Option Addr) (c0 : Nat) (l0 : List (S56)) (a1 : Int) (a2 : Int) (a3 : Bool) (r : List (S56)) (w : World) (hr0 : Kd.C k56 w A0 l0.length l0) (hc0 : l0.length ≤ c0) (h : larchref06_with.f k l0 a1 a2 a3 = some r) :
    Calls Try.prog 25 #[.slice A0 l0.length c0, .int .i64 a1, .int .i64 a2, .bool a3] w fun e w' => ∃ v0_ : Value, e = .returned (v0_) ∧ Kd.R k56 56 w' w.heap.size (fun _ => True) v0_ r ∧ Below w.heap.size w w' := by
  have hu56 := Try.underlying56
  have HR0 := Aside0.mk hr0
  have HC0 := Aside0.mk hc0
  clear hr0 hc0
  have HB := Aside0.mk (Below.refl w.heap.size w)
  have H : (larchref06_with.l0 k l0 a1 a2 ([] : List (S56)) a3 0) = some r := h
  clear h
  have H' := Aside0.mk H
  clear H
  go_enter Try.func25, Try.ntmps25
  go_wp2
  go_loopg [9, 10, 11] k (fun kq v9 v10 v11 w' => ∃ (x9_1 : List (S56)) (x10_1 : Bool) (x11_1 : Int), v10 = .bool x10_1 ∧ v11 = .int .i64 x11_1 ∧ Aside0 (larchref06_with.l0 kq l0 a1 a2 x9_1 x10_1 x11_1 = some r) ∧ Aside0 (kq ≤ k) ∧ Aside0 (Kd.R k56 56 w' w.heap.size (fun _ => True) v9 x9_1) ∧ Aside0 (Below w.heap.size w w'))
  case atStart => exact ⟨(([] : List (S56))), (a3), (0), (by first | rfl | (simp; done) | (simp [*]; done)), (by first | rfl | (simp; done) | (simp [*]; done)), H', ⟨Nat.le_refl _⟩, ⟨by first | exact Kd.R_nil _ _ _ _ _ | exact Kd.N_nil _ _ _ _ _ | exact Kd.V_nil _ _ _ _ _ | exact Kd.Q_nil _ _ _ _ _ | exact Kd.S_nil _ _ _ _ _⟩, ⟨by repeat (first | (with_reducible first | exact HB.out | apply below_alloc | apply pw_below_drewN | apply below_drew1) | exact HB.out)⟩⟩
  case round =>
    clear H'
    try clear c2
    try clear p2
    obtain ⟨x9_1, x10_1, x11_1, rfl, rfl, HA, HK1, HO_9, HB⟩ := hrel
    cases gk with
    | zero => exact absurd HA.out (by simp [larchref06_with.l0])
    | succ k1 =>
      have H := HA.out
      clear HA
      simp only [larchref06_with.l0] at H
      by_cases c5 : x11_1 < (l0.length : Int)
      · rw [if_pos c5] at H
        have c5b0 : decide (x11_1 < (l0.length : Int)) = true := decide_eq_true c5
        clear c5
        have HC6 := Aside0.mk H
        clear H
        go_upto_region 6 with (fail)
        go_cut [29] (fun v29 wc => ∃ (kq : Nat) (x29_5 : Bool), v29 = .bool x29_5 ∧ Aside0 (larchref06_with.j1 kq l0 a1 a2 x9_1 x10_1 x11_1 x29_5 = some r) ∧ Aside0 (kq ≤ k1) ∧ Aside0 (Kd.R k56 56 wc w.heap.size (fun _ => True) u9 x9_1) ∧ Aside0 (Below w.heap.size w wc))
        case first =>
          have H := HC6.out
          clear HC6
          by_cases c7 : x10_1 = true
          · subst c7
            have H1 : (larchref06_with.j1 k1 l0 a1 a2 x9_1 true x11_1 false) = some r := by rw [if_pos rfl] at H; exact H
            clear H
            have H := H1
            clear H1
            have H' := Aside0.mk H
            clear H
            go_wp2
            go_meet
            case rel => exact ⟨_, (false), (by first | rfl | (simp; done) | (simp [*]; done)), H', ⟨by have := HK1.out; first | omega | exact Nat.le_refl _⟩, ⟨by (with_reducible repeat (first | apply Kd.R_alloc | apply Kd.R_drewN | apply Kd.R_drew)); exact HO_9.out⟩, ⟨by repeat (first | (with_reducible first | exact HB.out | apply below_alloc | apply pw_below_drewN | apply below_drew1) | exact HB.out)⟩⟩
          · replace c7 := Bool.eq_false_iff.mpr c7
            subst c7
            have H1 : (if 0 ≤ x11_1 then (larchref06_with.j1 k1 l0 a1 a2 x9_1 false x11_1 (decide (((rd_T56 l0 x11_1).f0) ≥ a1))) else (none)) = some r := by rw [if_neg (show ¬ (false = true) by decide)] at H; exact H
            clear H
            have H := H1
            clear H1
            by_cases c8 : 0 ≤ x11_1
            · rw [if_pos c8] at H
              have c8b0 : decide (0 ≤ x11_1) = true := decide_eq_true c8
              clear c8
              (first | rw [c8b0] | (simp only [i64_w, i32_w]; rw [c8b0]) | skip)
              have H' := Aside0.mk H
              clear H
              have p159 : 0 ≤ (x11_1 : Int) := of_decide_eq_true (by first | (with_reducible assumption) | assumption)
              have q159 : x11_1 < (l0.length : Int) := of_decide_eq_true (by first | (with_reducible assumption) | assumption)
              obtain ⟨ad159, e159, hx159_0, hx159_1⟩ := at_T56 HR0.out x11_1 p159 q159
              cases e159
              replace hx159_0 := (HB.out.cell (World.block_lt_of_cell? w _ hx159_0)).trans hx159_0
              replace hx159_1 := (HB.out.cell (World.block_lt_of_cell? w _ hx159_1)).trans hx159_1
              replace p159 := eq_true p159
              replace q159 := eq_true q159
              go_wp2
              go_meet
              case rel => exact ⟨_, (decide (((rd_T56 l0 x11_1).f0) ≥ a1)), (by first | rfl | (simp; done) | (simp [*]; done)), H', ⟨by have := HK1.out; first | omega | exact Nat.le_refl _⟩, ⟨by (with_reducible repeat (first | apply Kd.R_alloc | apply Kd.R_drewN | apply Kd.R_drew)); exact HO_9.out⟩, ⟨by repeat (first | (with_reducible first | exact HB.out | apply below_alloc | apply pw_below_drewN | apply below_drew1) | exact HB.out)⟩⟩
            · rw [if_neg c8] at H
              exact absurd H (by simp)
        case rest =>
          clear HC6
          try clear p1
          try clear q1
          try clear hx1
          try clear c2
          try clear p2
          try clear c5
          try clear c5b0
          try clear c7
          try clear c8
          try clear c8b0
          try clear hx159_0
          try clear hx159_1
          try clear p159
          try clear p2
          try clear q159
          obtain ⟨kq, x29_5, rfl, HA, HJ5, HO_9, HB⟩ := hcut
          cases kq with
          | zero => exact absurd HA.out (by simp [larchref06_with.j1])
          | succ kj5 =>
            have H := HA.out
            clear HA
            simp only [larchref06_with.j1] at H
            by_cases c9 : x29_5 = true
            · subst c9
              have H1 : (if x9_1.length < 8796093022208 then ((some (x9_1 ++ [(⟨a1, a2⟩ : S56)] : List (S56))).bind fun y160 => (if 0 ≤ x11_1 then (if x11_1 < (l0.length : Int) then (if ((rd_T56 l0 x11_1).f0) = a1 then (larchref06_with.l0 kj5 l0 a1 a2 y160 true (wrap64 (x11_1 + 1))) else (if y160.length < 8796093022208 then (larchref06_with.l0 kj5 l0 a1 a2 (y160 ++ [(⟨(rd_T56 l0 x11_1).f0, (rd_T56 l0 x11_1).f1⟩ : S56)]) true (wrap64 (x11_1 + 1))) else (none))) else (none)) else (none))) else (none)) = some r := by rw [if_pos rfl] at H; exact H
              clear H
              have H := H1
              clear H1
              by_cases c10 : x9_1.length < 8796093022208
              · rw [if_pos c10] at H
                have LMc10 := Aside0.mk c10
                clear c10
                obtain ⟨y160, hy160⟩ : ∃ y_ : List (S56), y_ = (x9_1 ++ [(⟨a1, a2⟩ : S56)]) := ⟨_, rfl⟩
                replace H : (if 0 ≤ x11_1 then (if x11_1 < (l0.length : Int) then (if ((rd_T56 l0 x11_1).f0) = a1 then (larchref06_with.l0 kj5 l0 a1 a2 y160 true (wrap64 (x11_1 + 1))) else (if y160.length < 8796093022208 then (larchref06_with.l0 kj5 l0 a1 a2 (y160 ++ [(⟨(rd_T56 l0 x11_1).f0, (rd_T56 l0 x11_1).f1⟩ : S56)]) true (wrap64 (x11_1 + 1))) else (none))) else (none)) else (none)) = some r := by first | (rw [hy160]; with_reducible exact H) | (have H2_ := (Option.bind_some _ _).symm.trans H; rw [hy160]; with_reducible exact H2_) | (have H2_ := (Option.bind_some _ _).symm.trans H; with_reducible exact H2_) | with_reducible exact H | (rw [hy160]; exact H) | exact H
                have Ny160 := Aside0.mk hy160
                clear hy160
                by_cases c11 : 0 ≤ x11_1
                · rw [if_pos c11] at H
                  have c11b0 : decide (0 ≤ x11_1) = true := decide_eq_true c11
                  clear c11
                  by_cases c12 : x11_1 < (l0.length : Int)
                  · rw [if_pos c12] at H
                    have c12b0 : decide (x11_1 < (l0.length : Int)) = true := decide_eq_true c12
                    clear c12
                    by_cases c13 : ((rd_T56 l0 x11_1).f0) = a1
                    · rw [if_pos c13] at H
                      have c13b0 : (((rd_T56 l0 x11_1).f0) == a1) = true := beq_iff_eq.mpr c13
                      have c13b1 : (((rd_T56 l0 x11_1).f0) != a1) = false := bne_eq_false_iff_eq.mpr c13
                      clear c13
                      have H' := Aside0.mk H
                      clear H
                      go_wp2_with (first | ((with_reducible refine gate_builtin (b := .append) (xs := #[.tmp 30, .tmp 34]) rfl ?_); at_builtin; refine Kd.R_append k56 (w0 := w) w.heap.size rfl (.tmp 30) (.tmp 34) 22 56 (.agg #[(.int .i64 0), (.int .i64 0)]) 16 rfl Try.underlying22 info56 rfl (by decide) (by omega) u9 x9_1 (⟨a1, a2⟩ : S56) [.int .i64 a1, .int .i64 a2] (fun _ => True) (fun _ => False) rfl rfl ?aP (fun _ hk => hk.elim) ?aF ?aO ?aB ?aS ?aL ?_; (case aP => exact k56_mkM _ _ _ (⟨a1, a2⟩ : S56)); (case aB => exact (by repeat (first | (with_reducible first | exact HB.out | apply below_alloc | apply pw_below_drewN | apply below_drew1) | exact HB.out))); (case aF => exact (fun _ _ => trivial)); (case aO => exact (by (with_reducible repeat (first | apply Kd.R_alloc | apply Kd.R_drewN | apply Kd.R_drew)); exact HO_9.out)); (case aS => exact (below_size (by repeat (first | (with_reducible first | exact HB.out | apply below_alloc | apply pw_below_drewN | apply below_drew1) | exact HB.out)))); (case aL => have := LMc10.out; omega); intro v161 w14 ho hb hg hat; rw [← Ny160.out] at ho; have n0_ := Aside0.mk (hb); have n1_ := Aside0.mk (ho); clear HB; clear HO_9; have HB := n0_; have HO162 := n1_; clear n0_ n1_; clear ho hb hg hat; have p163 : 0 ≤ (x11_1 : Int) := of_decide_eq_true (by first | (with_reducible assumption) | assumption); have q163 : x11_1 < (l0.length : Int) := of_decide_eq_true (by first | (with_reducible assumption) | assumption); obtain ⟨ad163, e163, hx163_0, hx163_1⟩ := at_T56 HR0.out x11_1 p163 q163; cases e163; replace hx163_0 := (HB.out.cell (World.block_lt_of_cell? w _ hx163_0)).trans hx163_0; replace hx163_1 := (HB.out.cell (World.block_lt_of_cell? w _ hx163_1)).trans hx163_1; replace p163 := eq_true p163; replace q163 := eq_true q163))
                      go_roundg kj5
                      case measure => have := HK1.out; have := HJ5.out; omega
                      case rel => exact ⟨(y160), (true), (wrap64 (x11_1 + 1)), (by first | rfl | (simp; done) | (simp [*]; done)), (by first | rfl | (simp; done) | (simp [*]; done)), H', ⟨by have := HK1.out; have := HJ5.out; omega⟩, ⟨by (with_reducible repeat (first | apply Kd.R_alloc | apply Kd.R_drewN | apply Kd.R_drew)); exact HO162.out⟩, ⟨by repeat (first | (with_reducible first | exact HB.out | apply below_alloc | apply pw_below_drewN | apply below_drew1) | exact HB.out)⟩⟩
                    · rw [if_neg c13] at H
                      have c13b0 : (((rd_T56 l0 x11_1).f0) == a1) = false := beq_eq_false_iff_ne.mpr c13
                      have c13b1 : (((rd_T56 l0 x11_1).f0) != a1) = true := bne_iff_ne.mpr c13
                      by_cases c15 : y160.length < 8796093022208
                      · rw [if_pos c15] at H
                        have LMc15 := Aside0.mk c15
                        clear c15
                        obtain ⟨y165, hy165⟩ : ∃ y_ : List (S56), y_ = (y160 ++ [(⟨(rd_T56 l0 x11_1).f0, (rd_T56 l0 x11_1).f1⟩ : S56)]) := ⟨_, rfl⟩
                        replace H : (larchref06_with.l0 kj5 l0 a1 a2 y165 true (wrap64 (x11_1 + 1))) = some r := by first | (rw [hy165]; with_reducible exact H) | (have H2_ := (Option.bind_some _ _).symm.trans H; rw [hy165]; with_reducible exact H2_) | (have H2_ := (Option.bind_some _ _).symm.trans H; with_reducible exact H2_) | with_reducible exact H | (rw [hy165]; exact H) | exact H
                        have Ny165 := Aside0.mk hy165
                        clear hy165
                        have H' := Aside0.mk H
                        clear H
                        go_wp2_with (first | ((with_reducible refine gate_builtin (b := .append) (xs := #[.tmp 30, .tmp 34]) rfl ?_); at_builtin; refine Kd.R_append k56 (w0 := w) w.heap.size rfl (.tmp 30) (.tmp 34) 22 56 (.agg #[(.int .i64 0), (.int .i64 0)]) 16 rfl Try.underlying22 info56 rfl (by decide) (by omega) u9 x9_1 (⟨a1, a2⟩ : S56) [.int .i64 a1, .int .i64 a2] (fun _ => True) (fun _ => False) rfl rfl ?aP (fun _ hk => hk.elim) ?aF ?aO ?aB ?aS ?aL ?_; (case aP => exact k56_mkM _ _ _ (⟨a1, a2⟩ : S56)); (case aB => exact (by repeat (first | (with_reducible first | exact HB.out | apply below_alloc | apply pw_below_drewN | apply below_drew1) | exact HB.out))); (case aF => exact (fun _ _ => trivial)); (case aO => exact (by (with_reducible repeat (first | apply Kd.R_alloc | apply Kd.R_drewN | apply Kd.R_drew)); exact HO_9.out)); (case aS => exact (below_size (by repeat (first | (with_reducible first | exact HB.out | apply below_alloc | apply pw_below_drewN | apply below_drew1) | exact HB.out)))); (case aL => have := LMc10.out; omega); intro v161 w16 ho hb hg hat; rw [← Ny160.out] at ho; have n0_ := Aside0.mk (hb); have n1_ := Aside0.mk (ho); clear HB; clear HO_9; have HB := n0_; have HO162 := n1_; clear n0_ n1_; clear ho hb hg hat; have p163 : 0 ≤ (x11_1 : Int) := of_decide_eq_true (by first | (with_reducible assumption) | assumption); have q163 : x11_1 < (l0.length : Int) := of_decide_eq_true (by first | (with_reducible assumption) | assumption); obtain ⟨ad163, e163, hx163_0, hx163_1⟩ := at_T56 HR0.out x11_1 p163 q163; cases e163; replace hx163_0 := (HB.out.cell (World.block_lt_of_cell? w _ hx163_0)).trans hx163_0; replace hx163_1 := (HB.out.cell (World.block_lt_of_cell? w _ hx163_1)).trans hx163_1; replace p163 := eq_true p163; replace q163 := eq_true q163; have p164 : 0 ≤ (x11_1 : Int) := of_decide_eq_true (by first | (with_reducible assumption) | assumption); have q164 : x11_1 < (l0.length : Int) := of_decide_eq_true (by first | (with_reducible assumption) | assumption); obtain ⟨ad164, e164, hx164_0, hx164_1⟩ := at_T56 HR0.out x11_1 p164 q164; obtain rfl : ad163 = ad164 := (by injection e164); replace hx164_0 := (HB.out.cell (World.block_lt_of_cell? w _ hx164_0)).trans hx164_0; replace hx164_1 := (HB.out.cell (World.block_lt_of_cell? w _ hx164_1)).trans hx164_1; replace p164 := eq_true p164; replace q164 := eq_true q164) | ((with_reducible refine gate_builtin (b := .append) (xs := #[.tmp 43, .tmp 48]) rfl ?_); at_builtin; refine Kd.R_append k56 (w0 := w) w.heap.size rfl (.tmp 43) (.tmp 48) 22 56 (.agg #[(.int .i64 0), (.int .i64 0)]) 16 rfl Try.underlying22 info56 rfl (by decide) (by omega) v161 y160 (⟨(rd_T56 l0 x11_1).f0, (rd_T56 l0 x11_1).f1⟩ : S56) [.int .i64 ((rd_T56 l0 x11_1).f0), .int .i64 ((rd_T56 l0 x11_1).f1)] (fun _ => True) (fun _ => False) rfl rfl ?aP (fun _ hk => hk.elim) ?aF ?aO ?aB ?aS ?aL ?_; (case aP => exact k56_mkM _ _ _ (⟨(rd_T56 l0 x11_1).f0, (rd_T56 l0 x11_1).f1⟩ : S56)); (case aB => exact (by repeat (first | (with_reducible first | exact HB.out | apply below_alloc | apply pw_below_drewN | apply below_drew1) | exact HB.out))); (case aF => exact (fun _ _ => trivial)); (case aO => exact (by (with_reducible repeat (first | apply Kd.R_alloc | apply Kd.R_drewN | apply Kd.R_drew)); exact HO162.out)); (case aS => exact (below_size (by repeat (first | (with_reducible first | exact HB.out | apply below_alloc | apply pw_below_drewN | apply below_drew1) | exact HB.out)))); (case aL => have := LMc15.out; omega); intro v166 w17 ho hb hg hat; rw [← Ny165.out] at ho; have n0_ := Aside0.mk (hb); have n1_ := Aside0.mk (ho); clear HB; clear HO162; have HB := n0_; have HO167 := n1_; clear n0_ n1_; clear ho hb hg hat))
                        go_roundg kj5
                        case measure => have := HK1.out; have := HJ5.out; omega
                        case rel => exact ⟨(y165), (true), (wrap64 (x11_1 + 1)), (by first | rfl | (simp; done) | (simp [*]; done)), (by first | rfl | (simp; done) | (simp [*]; done)), H', ⟨by have := HK1.out; have := HJ5.out; omega⟩, ⟨by (with_reducible repeat (first | apply Kd.R_alloc | apply Kd.R_drewN | apply Kd.R_drew)); exact HO167.out⟩, ⟨by repeat (first | (with_reducible first | exact HB.out | apply below_alloc | apply pw_below_drewN | apply below_drew1) | exact HB.out)⟩⟩
                      · rw [if_neg c15] at H
                        exact absurd H (by simp)
                  · rw [if_neg c12] at H
                    exact absurd H (by simp)
                · rw [if_neg c11] at H
                  exact absurd H (by simp)
              · rw [if_neg c10] at H
                exact absurd H (by simp)
            · replace c9 := Bool.eq_false_iff.mpr c9
              subst c9
              have H1 : (if 0 ≤ x11_1 then (if x11_1 < (l0.length : Int) then (if ((rd_T56 l0 x11_1).f0) = a1 then (larchref06_with.l0 kj5 l0 a1 a2 x9_1 x10_1 (wrap64 (x11_1 + 1))) else (if x9_1.length < 8796093022208 then (larchref06_with.l0 kj5 l0 a1 a2 (x9_1 ++ [(⟨(rd_T56 l0 x11_1).f0, (rd_T56 l0 x11_1).f1⟩ : S56)]) x10_1 (wrap64 (x11_1 + 1))) else (none))) else (none)) else (none)) = some r := by rw [if_neg (show ¬ (false = true) by decide)] at H; exact H
              clear H
              have H := H1
              clear H1
              by_cases c18 : 0 ≤ x11_1
              · rw [if_pos c18] at H
                have c18b0 : decide (0 ≤ x11_1) = true := decide_eq_true c18
                clear c18
                by_cases c19 : x11_1 < (l0.length : Int)
                · rw [if_pos c19] at H
                  have c19b0 : decide (x11_1 < (l0.length : Int)) = true := decide_eq_true c19
                  clear c19
                  by_cases c20 : ((rd_T56 l0 x11_1).f0) = a1
                  · rw [if_pos c20] at H
                    have c20b0 : (((rd_T56 l0 x11_1).f0) == a1) = true := beq_iff_eq.mpr c20
                    have c20b1 : (((rd_T56 l0 x11_1).f0) != a1) = false := bne_eq_false_iff_eq.mpr c20
                    clear c20
                    have H' := Aside0.mk H
                    clear H
                    have p168 : 0 ≤ (x11_1 : Int) := of_decide_eq_true (by first | (with_reducible assumption) | assumption)
                    have q168 : x11_1 < (l0.length : Int) := of_decide_eq_true (by first | (with_reducible assumption) | assumption)
                    obtain ⟨ad168, e168, hx168_0, hx168_1⟩ := at_T56 HR0.out x11_1 p168 q168
                    cases e168
                    replace hx168_0 := (HB.out.cell (World.block_lt_of_cell? w _ hx168_0)).trans hx168_0
                    replace hx168_1 := (HB.out.cell (World.block_lt_of_cell? w _ hx168_1)).trans hx168_1
                    replace p168 := eq_true p168
                    replace q168 := eq_true q168
                    go_wp2
                    go_roundg kj5
                    case measure => have := HK1.out; have := HJ5.out; omega
                    case rel => exact ⟨(x9_1), (x10_1), (wrap64 (x11_1 + 1)), (by first | rfl | (simp; done) | (simp [*]; done)), (by first | rfl | (simp; done) | (simp [*]; done)), H', ⟨by have := HK1.out; have := HJ5.out; omega⟩, ⟨by (with_reducible repeat (first | apply Kd.R_alloc | apply Kd.R_drewN | apply Kd.R_drew)); exact HO_9.out⟩, ⟨by repeat (first | (with_reducible first | exact HB.out | apply below_alloc | apply pw_below_drewN | apply below_drew1) | exact HB.out)⟩⟩
                  · rw [if_neg c20] at H
                    have c20b0 : (((rd_T56 l0 x11_1).f0) == a1) = false := beq_eq_false_iff_ne.mpr c20
                    have c20b1 : (((rd_T56 l0 x11_1).f0) != a1) = true := bne_iff_ne.mpr c20
                    by_cases c21 : x9_1.length < 8796093022208
                    · rw [if_pos c21] at H
                      have LMc21 := Aside0.mk c21
                      clear c21
                      obtain ⟨y170, hy170⟩ : ∃ y_ : List (S56), y_ = (x9_1 ++ [(⟨(rd_T56 l0 x11_1).f0, (rd_T56 l0 x11_1).f1⟩ : S56)]) := ⟨_, rfl⟩
                      replace H : (larchref06_with.l0 kj5 l0 a1 a2 y170 x10_1 (wrap64 (x11_1 + 1))) = some r := by first | (rw [hy170]; with_reducible exact H) | (have H2_ := (Option.bind_some _ _).symm.trans H; rw [hy170]; with_reducible exact H2_) | (have H2_ := (Option.bind_some _ _).symm.trans H; with_reducible exact H2_) | with_reducible exact H | (rw [hy170]; exact H) | exact H
                      have Ny170 := Aside0.mk hy170
                      clear hy170
                      have H' := Aside0.mk H
                      clear H
                      have p168 : 0 ≤ (x11_1 : Int) := of_decide_eq_true (by first | (with_reducible assumption) | assumption)
                      have q168 : x11_1 < (l0.length : Int) := of_decide_eq_true (by first | (with_reducible assumption) | assumption)
                      obtain ⟨ad168, e168, hx168_0, hx168_1⟩ := at_T56 HR0.out x11_1 p168 q168
                      cases e168
                      replace hx168_0 := (HB.out.cell (World.block_lt_of_cell? w _ hx168_0)).trans hx168_0
                      replace hx168_1 := (HB.out.cell (World.block_lt_of_cell? w _ hx168_1)).trans hx168_1
                      replace p168 := eq_true p168
                      replace q168 := eq_true q168
                      have p169 : 0 ≤ (x11_1 : Int) := of_decide_eq_true (by first | (with_reducible assumption) | assumption)
                      have q169 : x11_1 < (l0.length : Int) := of_decide_eq_true (by first | (with_reducible assumption) | assumption)
                      obtain ⟨ad169, e169, hx169_0, hx169_1⟩ := at_T56 HR0.out x11_1 p169 q169
                      obtain rfl : ad168 = ad169 := (by injection e169)
                      replace hx169_0 := (HB.out.cell (World.block_lt_of_cell? w _ hx169_0)).trans hx169_0
                      replace hx169_1 := (HB.out.cell (World.block_lt_of_cell? w _ hx169_1)).trans hx169_1
                      replace p169 := eq_true p169
                      replace q169 := eq_true q169
                      go_wp2_with (first | ((with_reducible refine gate_builtin (b := .append) (xs := #[.tmp 43, .tmp 48]) rfl ?_); at_builtin; refine Kd.R_append k56 (w0 := w) w.heap.size rfl (.tmp 43) (.tmp 48) 22 56 (.agg #[(.int .i64 0), (.int .i64 0)]) 16 rfl Try.underlying22 info56 rfl (by decide) (by omega) u9 x9_1 (⟨(rd_T56 l0 x11_1).f0, (rd_T56 l0 x11_1).f1⟩ : S56) [.int .i64 ((rd_T56 l0 x11_1).f0), .int .i64 ((rd_T56 l0 x11_1).f1)] (fun _ => True) (fun _ => False) rfl rfl ?aP (fun _ hk => hk.elim) ?aF ?aO ?aB ?aS ?aL ?_; (case aP => exact k56_mkM _ _ _ (⟨(rd_T56 l0 x11_1).f0, (rd_T56 l0 x11_1).f1⟩ : S56)); (case aB => exact (by repeat (first | (with_reducible first | exact HB.out | apply below_alloc | apply pw_below_drewN | apply below_drew1) | exact HB.out))); (case aF => exact (fun _ _ => trivial)); (case aO => exact (by (with_reducible repeat (first | apply Kd.R_alloc | apply Kd.R_drewN | apply Kd.R_drew)); exact HO_9.out)); (case aS => exact (below_size (by repeat (first | (with_reducible first | exact HB.out | apply below_alloc | apply pw_below_drewN | apply below_drew1) | exact HB.out)))); (case aL => have := LMc21.out; omega); intro v171 w22 ho hb hg hat; rw [← Ny170.out] at ho; have n0_ := Aside0.mk (hb); have n1_ := Aside0.mk (ho); clear HB; clear HO_9; have HB := n0_; have HO172 := n1_; clear n0_ n1_; clear ho hb hg hat))
                      go_roundg kj5
                      case measure => have := HK1.out; have := HJ5.out; omega
                      case rel => exact ⟨(y170), (x10_1), (wrap64 (x11_1 + 1)), (by first | rfl | (simp; done) | (simp [*]; done)), (by first | rfl | (simp; done) | (simp [*]; done)), H', ⟨by have := HK1.out; have := HJ5.out; omega⟩, ⟨by (with_reducible repeat (first | apply Kd.R_alloc | apply Kd.R_drewN | apply Kd.R_drew)); exact HO172.out⟩, ⟨by repeat (first | (with_reducible first | exact HB.out | apply below_alloc | apply pw_below_drewN | apply below_drew1) | exact HB.out)⟩⟩
                    · rw [if_neg c21] at H
                      exact absurd H (by simp)
                · rw [if_neg c19] at H
                  exact absurd H (by simp)
              · rw [if_neg c18] at H
                exact absurd H (by simp)
      · rw [if_neg c5] at H
        have c5b0 : decide (x11_1 < (l0.length : Int)) = false := decide_eq_false c5
        clear c5
        by_cases c23 : x10_1 = true
        · subst c23
          have H1 : (some x9_1) = some r := by rw [if_pos rfl] at H; exact H
          clear H
          have H := H1
          clear H1
          obtain rfl := Option.some.inj H
          go_wp2
          go_ret
          exact ⟨_, by first | rfl | (simp [errW_none, errW_some] <;> rfl) | (simp [*, errW_none, errW_some] <;> rfl), by (with_reducible repeat (first | apply Kd.R_alloc | apply Kd.R_drewN | apply Kd.R_drew)); exact HO_9.out, by repeat (first | (with_reducible first | exact HB.out | apply below_alloc | apply pw_below_drewN | apply below_drew1) | exact HB.out)⟩
        · replace c23 := Bool.eq_false_iff.mpr c23
          subst c23
          have H1 : (if x9_1.length < 8796093022208 then (some (x9_1 ++ [(⟨a1, a2⟩ : S56)])) else (none)) = some r := by rw [if_neg (show ¬ (false = true) by decide)] at H; exact H
          clear H
          have H := H1
          clear H1
          by_cases c24 : x9_1.length < 8796093022208
          · rw [if_pos c24] at H
            have LMc24 := Aside0.mk c24
            clear c24
            obtain ⟨y156, hy156⟩ : ∃ y_ : List (S56), y_ = (x9_1 ++ [(⟨a1, a2⟩ : S56)]) := ⟨_, rfl⟩
            replace H : (some y156) = some r := by first | (rw [hy156]; with_reducible exact H) | (have H2_ := (Option.bind_some _ _).symm.trans H; rw [hy156]; with_reducible exact H2_) | (have H2_ := (Option.bind_some _ _).symm.trans H; with_reducible exact H2_) | with_reducible exact H | (rw [hy156]; exact H) | exact H
            have Ny156 := Aside0.mk hy156
            clear hy156
            obtain rfl := Option.some.inj H
            go_wp2_with (first | ((with_reducible refine gate_builtin (b := .append) (xs := #[.tmp 52, .tmp 56]) rfl ?_); at_builtin; refine Kd.R_append k56 (w0 := w) w.heap.size rfl (.tmp 52) (.tmp 56) 22 56 (.agg #[(.int .i64 0), (.int .i64 0)]) 16 rfl Try.underlying22 info56 rfl (by decide) (by omega) u9 x9_1 (⟨a1, a2⟩ : S56) [.int .i64 a1, .int .i64 a2] (fun _ => True) (fun _ => False) rfl rfl ?aP (fun _ hk => hk.elim) ?aF ?aO ?aB ?aS ?aL ?_; (case aP => exact k56_mkM _ _ _ (⟨a1, a2⟩ : S56)); (case aB => exact (by repeat (first | (with_reducible first | exact HB.out | apply below_alloc | apply pw_below_drewN | apply below_drew1) | exact HB.out))); (case aF => exact (fun _ _ => trivial)); (case aO => exact (by (with_reducible repeat (first | apply Kd.R_alloc | apply Kd.R_drewN | apply Kd.R_drew)); exact HO_9.out)); (case aS => exact (below_size (by repeat (first | (with_reducible first | exact HB.out | apply below_alloc | apply pw_below_drewN | apply below_drew1) | exact HB.out)))); (case aL => have := LMc24.out; omega); intro v157 w25 ho hb hg hat; rw [← Ny156.out] at ho; have n0_ := Aside0.mk (hb); have n1_ := Aside0.mk (ho); clear HB; clear HO_9; have HB := n0_; have HO158 := n1_; clear n0_ n1_; clear ho hb hg hat))
            go_ret
            exact ⟨_, by first | rfl | (simp [errW_none, errW_some] <;> rfl) | (simp [*, errW_none, errW_some] <;> rfl), by (with_reducible repeat (first | apply Kd.R_alloc | apply Kd.R_drewN | apply Kd.R_drew)); exact HO158.out, by repeat (first | (with_reducible first | exact HB.out | apply below_alloc | apply pw_below_drewN | apply below_drew1) | exact HB.out)⟩
          · rw [if_neg c24] at H
            exact absurd H (by simp)

-- NOT PRINTED: function 9 (larchref06_Step)

-- NOT PRINTED: function 3 (larchlaw15_ChainCalls)

end Go.Proofs.Yteeficpjggimcaa.PChainCalls
