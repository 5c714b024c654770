/- Joined texts: HelpF HelpG HelpH. -/
import Derived.Test.YtphhdmopfmelbaaGreatM4
import Derived.Test.YtphhdmopfmelbaaGreatM5
import Derived.StillTailTactics

/- help: fits. -/
namespace Go.Proofs.YtphhdmopfmelbaaGreat
open Go.RowKit Go.Proofs.YtphhdmopfmelbaaGreatW.PrintWords
set_option linter.unusedVariables false
set_option linter.unusedSimpArgs false

abbrev TPLN : Nat := 123
set_option maxHeartbeats 8000000 in
set_option maxRecDepth 100000 in
theorem help_fits (w : World) (v : WV) (d : WD) (x : PX) (hv : v.Reads w d) (hx : x.Reads w) (hl : d.fields.length < 1000000000000000) (hl3 : d.states.length < 1000000000000000) (hr : ∀ r ∈ d.fields, r.length < 1000000000000000) (hl4 : x.p.V.length < 1000000000000000) :
    Calls Tryz.prog 68 #[x.val, v.val d] w fun e w' => ∃ r, e = .returned (.bool r) ∧ (r = true ↔ x.p.Fits d) ∧ Below w.heap.size w w' := by
  obtain ⟨p, B0, k0, B1, k1, B2, k2⟩ := x
  refine calls_hide fun Q HQ => ?_
  have HN := Lib.hid (show ∀ w', Below w.heap.size w w' → ¬ p.Fits d → Q (.returned (.bool false)) w' from fun w' hb hn => HQ _ _ ⟨false, rfl, by simp [hn], hb⟩)
  have HY := Lib.hid (show ∀ w', Below w.heap.size w w' → p.Fits d → Q (.returned (.bool true)) w' from fun w' hb hn => HQ _ _ ⟨true, rfl, by simp [hn], hb⟩)
  have HV := Lib.hid hv
  have HX := Lib.hid hx
  have HR := Lib.hid hr
  simp only at hl4
  clear HQ hv hr hx
  go_enter Tryz.func68, Tryz.ntmps68
  by_cases e0 : p.V.length = 0
  case pos =>
    have HF := Lib.hid (fun w' hb => HN.out w' hb (fun h => by have := h.v0; omega))
    clear HN HY HV HR
    go_wp2
    exact HF.out _ (((Below.refl _ _).alloc (Nat.le_refl _) _).alloc (by simp) _)
  have f0 : ((p.V.length : Int) == 0) = false := by rw [beq_eq_false_iff_ne]; omega
  by_cases e1 : p.infos.length = p.V.length
  case neg =>
    have f1 : ((p.infos.length : Int) != (p.V.length : Int)) = true := by rw [bne_iff_ne]; omega
    have HF := Lib.hid (fun w' hb => HN.out w' hb (fun h => e1 h.v1))
    clear HN HY HV HR
    go_wp2
    exact HF.out _ (((Below.refl _ _).alloc (Nat.le_refl _) _).alloc (by simp) _)
  by_cases e2 : p.fin.length = p.V.length
  case neg =>
    have f1 : ((p.fin.length : Int) != (p.V.length : Int)) = true := by rw [bne_iff_ne]; omega
    have HF := Lib.hid (fun w' hb => HN.out w' hb (fun h => e2 h.v2))
    clear HN HY HV HR
    go_wp2
    exact HF.out _ (((Below.refl _ _).alloc (Nat.le_refl _) _).alloc (by simp) _)
  have E0 := Lib.hid (show 0 < p.V.length by omega)
  have E1 := Lib.hid e1
  have E2 := Lib.hid e2
  go_wp2
  clear e0 e1 e2 f0
  generalize hW : (w.alloc (.cells #[.slice B0 p.V.length k0, .slice B1 p.V.length k1, .slice B2 p.V.length k2, .int .i64 p.at_, .int .i64 p.fld, .int .i64 p.old, .int .i64 p.new] TPLN)).alloc (.cells #[.slice v.A0 d.fields.length v.c0, .slice v.A1 d.infos.length v.c1, .slice v.A2 d.marks.length v.c2, .slice v.A3 d.states.length v.c3, .slice v.A4 d.frozen.length v.c4] 60) = w0
  have HB0 := Lib.hid (show Below w.heap.size w w0 by rw [← hW]; exact ((Below.refl _ _).alloc (Nat.le_refl _) _).alloc (by simp) _)
  have HP0 := Lib.hid (show Blk w0 (w.heap.size) TPLN (PX.cells (PX.mk p B0 k0 B1 k1 B2 k2)) by rw [← hW]; have h := (Blk.new w TPLN (PX.cells (PX.mk p B0 k0 B1 k1 B2 k2))).alloc (.cells #[.slice v.A0 d.fields.length v.c0, .slice v.A1 d.infos.length v.c1, .slice v.A2 d.marks.length v.c2, .slice v.A3 d.states.length v.c3, .slice v.A4 d.frozen.length v.c4] 60); simp only [PX.cells, E1.out, E2.out] at h ⊢; exact h)
  have HK0 := Lib.hid (show Blk w0 (w.heap.size + 1) 60 (v.cells d) by rw [← hW]; have h := Blk.new (w.alloc (.cells #[.slice B0 p.V.length k0, .slice B1 p.V.length k1, .slice B2 p.V.length k2, .int .i64 p.at_, .int .i64 p.fld, .int .i64 p.old, .int .i64 p.new] TPLN)) 60 (v.cells d); simp only [World.size_alloc] at h ⊢; exact h)
  clear hW
  go_loopw [32] (fun k wr => ∃ j : Nat, j ≤ p.V.length ∧ k = .int .i64 j ∧ (∀ n ∈ p.V.take j, inH n 0 d.fields.length) ∧ (∀ n ∈ p.infos.take j, inH n (-1) d.states.length) ∧ Below w.heap.size w wr ∧ Blk wr (w.heap.size) TPLN (PX.cells (PX.mk p B0 k0 B1 k1 B2 k2)) ∧ Blk wr (w.heap.size + 1) 60 (v.cells d)) (fun k _ => p.V.length - (intOf k).toNat)
  case atStart => exact ⟨0, Nat.zero_le _, rfl, by simp, by simp, HB0.out, HP0.out, HK0.out⟩
  case round =>
    clear HB0 HK0 HP0
    obtain ⟨j, hj, rfl, hr1, hr2, hb, hp, hk⟩ := hrel
    have H1 := Lib.hid hr1
    have H2 := Lib.hid hr2
    have HB := Lib.hid hb
    have HP := Lib.hid hp
    have HK := Lib.hid hk
    clear hr1 hr2 hb hp hk
    have hpa : wr.cell? ⟨w.heap.size, 0, none⟩ = some (.slice B0 p.V.length k0) := HP.out.cell 0
    have hpb : wr.cell? ⟨w.heap.size, 1, none⟩ = some (.slice B1 p.infos.length k1) := HP.out.cell 1
    have hpd : wr.cell? ⟨w.heap.size, 3, none⟩ = some (.int .i64 p.at_) := HP.out.cell 3
    have hpe : wr.cell? ⟨w.heap.size, 4, none⟩ = some (.int .i64 p.fld) := HP.out.cell 4
    have hpf : wr.cell? ⟨w.heap.size, 5, none⟩ = some (.int .i64 p.old) := HP.out.cell 5
    have hpg : wr.cell? ⟨w.heap.size, 6, none⟩ = some (.int .i64 p.new) := HP.out.cell 6
    have hwa : wr.cell? ⟨w.heap.size + 1, 0, none⟩ = some (.slice v.A0 d.fields.length v.c0) := HK.out.cell 0
    have hwd : wr.cell? ⟨w.heap.size + 1, 3, none⟩ = some (.slice v.A3 d.states.length v.c3) := HK.out.cell 3
    by_cases hlt : j < p.V.length
    · have e1 := E1.out
      obtain ⟨ad, hA, hc0⟩ := int_at HX.out.h0 hlt
      have hc1 := pw_cell_below HB.out hc0
      obtain ⟨ad2, hA2, hc2⟩ := int_at HX.out.h1 (j := j) (by show j < p.infos.length; omega)
      have hc3 := pw_cell_below HB.out hc2
      have HM1 := Lib.hid (List.getElem_mem hlt)
      have HM2 := Lib.hid (List.getElem_mem (l := p.infos) (n := j) (by omega))
      have HS1 := Lib.hid (all_take (P := fun n => inH n 0 d.fields.length) hlt H1.out)
      have HS2 := Lib.hid (all_take (P := fun n => inH n (-1) d.states.length) (l := p.infos) (j := j) (show j < p.infos.length by omega) H2.out)
      simp only at hA hA2 hc0 hc1 hc2 hc3
      generalize p.V[j] = n at *
      generalize p.infos[j]'(by omega) = m at *
      subst hA hA2
      clear hc0 hc2 H1 H2
      by_cases hin : inH n 0 d.fields.length
      case neg =>
        have hw1 : inB n 0 d.fields.length = false := inB_false.2 hin
        have HF := Lib.hid (fun w' hb => HN.out w' hb (fun h => hin (h.hV _ HM1.out)))
        clear hin HS1 HS2 HN HY
        go_wp2
        go_quiet ((go_at_call 48; exact Calls.quiet_of_same (help_within' _ _ _ _)))
        go_wp2
        exact HF.out _ (pw_below_drewN HB.out _)
      have hw1 : inB n 0 d.fields.length = true := inB_true.2 hin
      by_cases him : inH m (-1) d.states.length
      case neg =>
        have hw2 : inB m (-1) d.states.length = false := inB_false.2 him
        have HF := Lib.hid (fun w' hb => HN.out w' hb (fun h => him (h.hI _ HM2.out)))
        clear hin him HS1 HS2 HN HY
        go_wp2
        go_quiet ((go_at_call 48; exact Calls.quiet_of_same (help_within' _ _ _ _)))
        go_wp2
        exact HF.out _ (pw_below_drewN HB.out _)
      have hw2 : inB m (-1) d.states.length = true := inB_true.2 him
      have HT1 := Lib.hid (HS1.out hin)
      have HT2 := Lib.hid (HS2.out him)
      clear hin him HS1 HS2
      go_wp2
      go_quiet ((go_at_call 48; exact Calls.quiet_of_same (help_within' _ _ _ _)))
      go_wp2
      go_roundw
      case rel => exact ⟨j + 1, by omega, by go_num, HT1.out, HT2.out, pw_below_drewN HB.out _, HP.out, HK.out⟩
      case measure => simp [intOf]; omega
    · obtain rfl : j = p.V.length := by omega
      have HF1 := Lib.hid (all_len H1.out)
      have HF2 := Lib.hid (all_len (P := fun n => inH n (-1) d.states.length) (l := p.infos) (by rw [E1.out]; exact H2.out))
      clear H1 H2 hlt hj
      by_cases h1 : inH p.at_ 0 p.V.length
      case neg =>
        have HW1 := Lib.hid (help_within_len p.at_ 0 p.V.length (by omega) false (inB_false.2 h1))
        have HF := Lib.hid (fun w' hb => HN.out w' hb (fun h => h1 (h.a)))
        clear HN HY HF1 HF2 h1
        go_wp2
        go_quiet ((go_at_call 48; first | with_reducible exact Calls.quiet_of_same (HW1.out _)))
        go_wp2
        exact HF.out _ (pw_below_drewN HB.out _)
      have HW1 := Lib.hid (help_within_len p.at_ 0 p.V.length (by omega) true (inB_true.2 h1))
      have hat0 : 0 ≤ p.at_ := h1.1
      have hat1 : p.at_ < p.V.length := h1.2
      obtain ⟨adv, hAv, hcv0⟩ := int_at HX.out.h0 (j := p.at_.toNat) (by show p.at_.toNat < p.V.length; omega)
      have hcv := pw_cell_below HB.out hcv0
      have HVm := HF1.out _ (List.getElem_mem (l := p.V) (n := p.at_.toNat) (by omega))
      have HG := Lib.hid (show p.V.getD p.at_.toNat 0 = p.V[p.at_.toNat]'(by omega) by simp [List.getD_eq_getElem?_getD, List.getElem?_eq_getElem (show p.at_.toNat < p.V.length by omega)])
      simp only at hAv hcv0 hcv
      generalize p.V[p.at_.toNat]'(by omega) = n at *
      have hn0 : 0 ≤ n := HVm.1
      have hn1 : n < d.fields.length := HVm.2
      obtain ⟨adf, hAf, A', c', hcf0, _, _⟩ := row_at HV.out.h0 (j := n.toNat) (by omega)
      have hcf := pw_cell_below HB.out hcf0
      have hrl := HR.out _ (List.getElem_mem (l := d.fields) (n := n.toNat) (by omega))
      have HG2 := Lib.hid (show d.fields.getD n.toNat [] = d.fields[n.toNat]'(by omega) by simp [List.getD_eq_getElem?_getD, List.getElem?_eq_getElem (show n.toNat < d.fields.length by omega)])
      generalize d.fields[n.toNat]'(by omega) = row at *
      subst hAv
      clear hcv0 hcf0 HVm
      obtain ⟨A0, c0, A1, c1, A2, c2, A3, c3, A4, c4⟩ := v
      simp only at hAf hwa hwd hcf
      subst hAf
      by_cases h2 : inH p.fld 0 row.length
      case neg =>
        have HW2 := Lib.hid (help_within_len p.fld 0 row.length (by omega) false (inB_false.2 h2))
        have HF := Lib.hid (fun w' hb => HN.out w' hb (fun h => h2 (by have := h.f; rw [HG.out, HG2.out] at this; exact this)))
        clear HN HY HF1 HF2 h2
        go_wp2
        go_quiet ((go_at_call 48; first | with_reducible exact Calls.quiet_of_same (HW1.out _) | with_reducible exact Calls.quiet_of_same (HW2.out _)))
        go_wp2
        exact HF.out _ (pw_below_drewN HB.out _)
      have HW2 := Lib.hid (help_within_len p.fld 0 row.length (by omega) true (inB_true.2 h2))
      by_cases h3 : inH p.old (-1) d.fields.length
      case neg =>
        have HW3 := Lib.hid (help_within_len p.old (-1) d.fields.length (by omega) false (inB_false.2 h3))
        have HF := Lib.hid (fun w' hb => HN.out w' hb (fun h => h3 (h.o)))
        clear HN HY HF1 HF2 h3
        go_wp2
        go_quiet ((go_at_call 48; first | with_reducible exact Calls.quiet_of_same (HW1.out _) | with_reducible exact Calls.quiet_of_same (HW2.out _) | with_reducible exact Calls.quiet_of_same (HW3.out _)))
        go_wp2
        exact HF.out _ (pw_below_drewN HB.out _)
      have HW3 := Lib.hid (help_within_len p.old (-1) d.fields.length (by omega) true (inB_true.2 h3))
      by_cases h4 : inH p.new (-1) d.fields.length
      case neg =>
        have HW4 := Lib.hid (help_within_len p.new (-1) d.fields.length (by omega) false (inB_false.2 h4))
        have HF := Lib.hid (fun w' hb => HN.out w' hb (fun h => h4 (h.n)))
        clear HN HY HF1 HF2 h4
        go_wp2
        go_quiet ((go_at_call 48; first | with_reducible exact Calls.quiet_of_same (HW1.out _) | with_reducible exact Calls.quiet_of_same (HW2.out _) | with_reducible exact Calls.quiet_of_same (HW3.out _) | with_reducible exact Calls.quiet_of_same (HW4.out _)))
        go_wp2
        exact HF.out _ (pw_below_drewN HB.out _)
      have HW4 := Lib.hid (help_within_len p.new (-1) d.fields.length (by omega) true (inB_true.2 h4))
      have HF := Lib.hid (fun w' hb => HY.out w' hb ⟨E0.out, E1.out, E2.out, h1, h3, h4, HF1.out, HF2.out, by rw [HG.out, HG2.out]; exact h2⟩)
      clear HN HY HF1 HF2 h1 h2 h3 h4
      go_wp2
      go_quiet ((go_at_call 48; first | with_reducible exact Calls.quiet_of_same (HW1.out _) | with_reducible exact Calls.quiet_of_same (HW2.out _) | with_reducible exact Calls.quiet_of_same (HW3.out _) | with_reducible exact Calls.quiet_of_same (HW4.out _)))
      go_wp2
      exact HF.out _ (pw_below_drewN HB.out _)
end Go.Proofs.YtphhdmopfmelbaaGreat

/- help: Check. -/
namespace Go.Proofs.YtphhdmopfmelbaaGreat
open Go.RowKit Go.Proofs.YtphhdmopfmelbaaGreatW.PrintWords
set_option linter.unusedVariables false
set_option linter.unusedSimpArgs false

set_option maxHeartbeats 8000000 in
set_option maxRecDepth 100000 in
theorem help_Check (w : World) (v : WV) (d : WD) (A : Option Addr) (c : Nat) (l : List PX) (hv : v.Reads w d) (hp : PlansAt w A l) (hl : d.fields.length < 1000000000000000) (hl3 : d.states.length < 1000000000000000) (hr : ∀ r ∈ d.fields, r.length < 1000000000000000) (hl4 : l.length < 1000000000000000) (hl5 : ∀ x ∈ l, x.p.V.length < 1000000000000000) :
    Calls Tryz.prog 47 #[v.val d, .slice A l.length c] w fun e w' => e = .returned (.int .i64 (chkH d (l.map PX.p))) ∧ Below w.heap.size w w' := by
  refine calls_hide fun Q HQ => ?_
  have HQ' := Lib.hid HQ
  have HV := Lib.hid hv
  have HP := Lib.hid hp
  have HR := Lib.hid hr
  have HL5 := Lib.hid hl5
  have HBA := Lib.hid ((Below.refl w.heap.size w).alloc (Nat.le_refl _) (.cells (v.cells d).toArray 60))
  have HB1 := Lib.hid (Blk.new w 60 (v.cells d))
  clear HQ hv hr hp hl5
  have hb0 := bg1_zero d
  have hcases : (d.fields.length > 64 ∧ bg1 d 0 = true) ∨ (¬ d.fields.length > 64 ∧ d.states.length > 64 ∧ bg1 d 0 = true) ∨ (¬ d.fields.length > 64 ∧ ¬ d.states.length > 64 ∧ bg1 d 0 = false) := by
    by_cases h0 : d.fields.length > 64
    · exact .inl ⟨h0, by rw [hb0]; simp [h0]⟩
    · by_cases h1 : d.states.length > 64
      · exact .inr (.inl ⟨h0, h1, by rw [hb0]; simp [h1]⟩)
      · exact .inr (.inr ⟨h0, h1, by rw [hb0]; simp [h0, h1]⟩)
  clear hb0
  rcases hcases with ⟨h0, hb⟩ | ⟨h0, h1, hb⟩ | ⟨h0, h1, hb⟩
  all_goals
    have HB0 := Lib.hid hb
    clear hb
    go_enter Tryz.func47, Tryz.ntmps47
    go_wp2
    go_loopw [25, 5] (fun k b wr => ∃ j : Nat, j ≤ d.fields.length ∧ k = .int .i64 j ∧ b = .bool (bg1 d j) ∧ Below w.heap.size w wr ∧ Blk wr w.heap.size 60 (v.cells d)) (fun k _ _ => d.fields.length - (intOf k).toNat)
    case atStart => exact ⟨0, Nat.zero_le _, rfl, by rw [HB0.out] <;> first | rfl | (simp <;> omega), HBA.out, HB1.out⟩
    case round =>
      obtain ⟨j, hj, rfl, rfl, hb, hk⟩ := hrel
      have HB := Lib.hid hb
      have HK := Lib.hid hk
      have hc0 : wr.cell? ⟨w.heap.size, 0, none⟩ = some (.slice v.A0 d.fields.length v.c0) := HK.out.cell 0
      clear hb hk
      by_cases hlt : j < d.fields.length
      · obtain ⟨ad, hA, A', c', hr0, _, _⟩ := row_at HV.out.h0 hlt
        have hr1 := pw_cell_below HB.out hr0
        have hrl := HR.out _ (List.getElem_mem hlt)
        have HBS := Lib.hid (bg1_step d j hlt)
        generalize d.fields[j] = row at *
        obtain ⟨A0, c0, A1, c1, A2, c2, A3, c3, A4, c4⟩ := v
        simp only at hA hc0
        subst hA
        clear hr0
        cases hbj : bg1 d j
        · have hbs := HBS.out
          rw [hbj, Bool.false_or] at hbs
          have HBS2 := Lib.hid hbs
          clear hbs
          go_wp2
          go_roundw
          case rel => exact ⟨j + 1, by omega, by go_num, by rw [HBS2.out]; exact congrArg Value.bool (decide_eq_decide.2 (by omega)), HB.out, HK.out⟩
          case measure => simp [intOf]; omega
        · go_wp2
          go_roundw
          case rel => exact ⟨j + 1, by omega, by go_num, by rw [HBS.out, hbj]; rfl, HB.out, HK.out⟩
          case measure => simp [intOf]; omega
      · have hje : j = d.fields.length := by omega
        subst hje
        clear hlt hj
        have HZ := Lib.hid (bg2_zero d l)
        go_wp2
        clear hc0
        go_loopw [38, 5] (fun k b wr => ∃ j : Nat, j ≤ l.length ∧ k = .int .i64 j ∧ b = .bool (bg2 d l j) ∧ Below w.heap.size w wr ∧ Blk wr w.heap.size 60 (v.cells d)) (fun k _ _ => l.length - (intOf k).toNat)
        case atStart => exact ⟨0, Nat.zero_le _, rfl, by rw [HZ.out], HB.out, HK.out⟩
        case round =>
          clear HB HK HZ
          obtain ⟨j, hj, rfl, rfl, hb, hk⟩ := hrel
          have HB := Lib.hid hb
          have HK := Lib.hid hk
          clear hb hk
          by_cases hlt : j < l.length
          · obtain ⟨pb, po, hA, p0, p1, p2, p3, p4, p5, p6⟩ := HP.out.at_ hlt
            have q0 := pw_cell_below HB.out p0
            have q1 := pw_cell_below HB.out p1
            have q2 := pw_cell_below HB.out p2
            have q3 := pw_cell_below HB.out p3
            have q4 := pw_cell_below HB.out p4
            have q5 := pw_cell_below HB.out p5
            have q6 := pw_cell_below HB.out p6
            have hrl := HL5.out _ (List.getElem_mem hlt)
            have HBS := Lib.hid (bg2_step d l j hlt)
            clear p0 p1 p2 p3 p4 p5 p6
            generalize l[j] = x at *
            obtain ⟨p, B0, k0, B1, k1, B2, k2⟩ := x
            simp only at q0 q1 q2 q3 q4 q5 q6 hrl
            subst hA
            cases hbj : bg2 d l j
            · have hbs := HBS.out
              rw [hbj, Bool.false_or] at hbs
              have HBS2 := Lib.hid hbs
              clear hbs
              go_wp2
              go_roundw
              case rel => exact ⟨j + 1, by omega, by go_num, by rw [HBS2.out]; exact congrArg Value.bool (decide_eq_decide.2 (by simp only; omega)), HB.out.alloc HB.out.size _, HK.out.alloc _⟩
              case measure => simp [intOf]; omega
            · go_wp2
              go_roundw
              case rel => exact ⟨j + 1, by omega, by go_num, by rw [HBS.out, hbj]; rfl, HB.out.alloc HB.out.size _, HK.out.alloc _⟩
              case measure => simp [intOf]; omega
          · have hje : j = l.length := by omega
            subst hje
            clear hlt hj
            cases hbj : bg2 d l l.length
            case true =>
              have hs := chk_big hbj
              rw [hs] at HQ'
              go_wp2
              exact HQ'.out _ _ ⟨rfl, HB.out⟩
            try exact absurd (bg_up HB0.out l.length) (by rw [hbj]; simp)
            all_goals
              have HBJ := Lib.hid hbj
              clear hbj
              have hk0 : wr.cell? ⟨w.heap.size, 0, none⟩ = some (.slice v.A0 d.fields.length v.c0) := HK.out.cell 0
              have hk1 : wr.cell? ⟨w.heap.size, 1, none⟩ = some (.slice v.A1 d.infos.length v.c1) := HK.out.cell 1
              have hk2 : wr.cell? ⟨w.heap.size, 2, none⟩ = some (.slice v.A2 d.marks.length v.c2) := HK.out.cell 2
              have hk3 : wr.cell? ⟨w.heap.size, 3, none⟩ = some (.slice v.A3 d.states.length v.c3) := HK.out.cell 3
              have hk4 : wr.cell? ⟨w.heap.size, 4, none⟩ = some (.slice v.A4 d.frozen.length v.c4) := HK.out.cell 4
              have HVr := Lib.hid (HV.out.below HB.out)
              have HG := Lib.hid (help_formed wr v d HVr.out hl hl3 HR.out)
              have hbf : bg2 d l l.length = false := HBJ.out
              clear hbf
              go_wp2_with fail
              refine HG.out.mono ?_
              rintro e w1 ⟨r, rfl, hri, hb1⟩
              have HB1' := Lib.hid (HB.out.trans (hb1.mono HB.out.size))
              have HK1 := Lib.hid (HK.out.below hb1 HK.out.lt)
              have HRI := Lib.hid hri
              clear hri hb1 HG HB HK hk0 hk1 hk2 hk3 hk4
              have hk3 : w1.cell? ⟨w.heap.size, 3, none⟩ = some (.slice v.A3 d.states.length v.c3) := HK1.out.cell 3
              cases r with
              | false =>
                have hs := chk_form HBJ.out (.inl (fun h => by have := HRI.out.2 h; cases this))
                rw [hs] at HQ'
                go_wp2
                exact HQ'.out _ _ ⟨rfl, HB1'.out⟩
              | true =>
                by_cases hll : l.length = d.states.length
                case neg =>
                  have hs := chk_form HBJ.out (.inr hll)
                  have hne : ((l.length : Int) != (d.states.length : Int)) = true := by rw [bne_iff_ne]; omega
                  rw [hs] at HQ'
                  clear hs
                  go_wp2
                  exact HQ'.out _ _ ⟨rfl, HB1'.out⟩
                have HLL := Lib.hid hll
                have hnn : ((l.length : Int) != (d.states.length : Int)) = false := by rw [bne_eq_false_iff_eq]; omega
                have HNN := Lib.hid hnn
                have HYF := Lib.hid (HRI.out.1 rfl)
                clear HRI
                go_wp2
                clear hll hnn hk3
                go_loopw [64] (fun k wr => ∃ j : Nat, j ≤ l.length ∧ k = .int .i64 j ∧ (∀ x ∈ l.take j, x.p.Fits d) ∧ Below w.heap.size w wr ∧ Blk wr w.heap.size 60 (v.cells d)) (fun k _ => l.length - (intOf k).toNat)
                case atStart => exact ⟨0, Nat.zero_le _, by simp, by simp, HB1'.out, HK1.out⟩
                case round =>
                  clear HB1' HK1
                  obtain ⟨j, hj, rfl, hfi, hb, hk⟩ := hrel
                  have HB := Lib.hid hb
                  have HK := Lib.hid hk
                  have HFI := Lib.hid hfi
                  clear hb hk hfi
                  have hll := HLL.out
                  by_cases hlt : j < l.length
                  · obtain ⟨pb, po, hA, p0, p1, p2, p3, p4, p5, p6⟩ := HP.out.at_ hlt
                    have q0 := pw_cell_below HB.out p0
                    have q1 := pw_cell_below HB.out p1
                    have q2 := pw_cell_below HB.out p2
                    have q3 := pw_cell_below HB.out p3
                    have q4 := pw_cell_below HB.out p4
                    have q5 := pw_cell_below HB.out p5
                    have q6 := pw_cell_below HB.out p6
                    have hk0 : wr.cell? ⟨w.heap.size, 0, none⟩ = some (.slice v.A0 d.fields.length v.c0) := HK.out.cell 0
                    have hk1 : wr.cell? ⟨w.heap.size, 1, none⟩ = some (.slice v.A1 d.infos.length v.c1) := HK.out.cell 1
                    have hk2 : wr.cell? ⟨w.heap.size, 2, none⟩ = some (.slice v.A2 d.marks.length v.c2) := HK.out.cell 2
                    have hk3 : wr.cell? ⟨w.heap.size, 3, none⟩ = some (.slice v.A3 d.states.length v.c3) := HK.out.cell 3
                    have hk4 : wr.cell? ⟨w.heap.size, 4, none⟩ = some (.slice v.A4 d.frozen.length v.c4) := HK.out.cell 4
                    have hrl := HL5.out _ (List.getElem_mem hlt)
                    have HXR := Lib.hid (HP.out.reads _ (List.getElem_mem hlt))
                    have HMx := Lib.hid (List.getElem_mem hlt)
                    have HST := Lib.hid (all_take (P := fun x : PX => x.p.Fits d) hlt HFI.out)
                    clear p0 p1 p2 p3 p4 p5 p6 HFI
                    generalize l[j] = x at *
                    obtain ⟨p, B0, k0, B1, k1, B2, k2⟩ := x
                    simp only at q0 q1 q2 q3 q4 q5 q6 hrl
                    have HVr := Lib.hid (fun w' (hb : Below w.heap.size w w') => HV.out.below hb)
                    have HXr := Lib.hid (fun w' (hb : Below w.heap.size w w') => HXR.out.below hb)
                    subst hA
                    have HB2 := Lib.hid (HB.out.alloc HB.out.size (.cells #[.slice B0 p.V.length k0, .slice B1 p.infos.length k1, .slice B2 p.fin.length k2, .int .i64 p.at_, .int .i64 p.fld, .int .i64 p.old, .int .i64 p.new] 123))
                    have HK2 := Lib.hid (HK.out.alloc (.cells #[.slice B0 p.V.length k0, .slice B1 p.infos.length k1, .slice B2 p.fin.length k2, .int .i64 p.at_, .int .i64 p.fld, .int .i64 p.old, .int .i64 p.new] 123))
                    have gk0 := HK2.out.cell 0
                    have gk1 := HK2.out.cell 1
                    have gk2 := HK2.out.cell 2
                    have gk3 := HK2.out.cell 3
                    have gk4 := HK2.out.cell 4
                    simp only [List.getElem?_cons_zero, List.getElem?_cons_succ] at gk0 gk1 gk2 gk3 gk4
                    have HFT := Lib.hid (help_fits _ v d ⟨p, B0, k0, B1, k1, B2, k2⟩ (HVr.out _ HB2.out) (HXr.out _ HB2.out) hl hl3 HR.out hrl)
                    go_wp2_with fail
                    refine HFT.out.mono ?_
                    rintro e w2 ⟨r, rfl, hri, hb1⟩
                    have HB3 := Lib.hid (HB2.out.trans (hb1.mono HB2.out.size))
                    have HK3 := Lib.hid (HK2.out.below hb1 HK2.out.lt)
                    have HRI := Lib.hid hri
                    clear hri hb1 HFT HB2 HK2 gk0 gk1 gk2 gk3 gk4 q0 q1 q2 q3 q4 q5 q6 hk0 hk1 hk2 hk3 hk4 HVr HXr
                    cases r with
                    | false =>
                      have hs := chk_not HBJ.out HYF.out HLL.out HMx.out (fun h => by have := HRI.out.2 h; cases this)
                      rw [hs] at HQ'
                      clear hs
                      go_wp2
                      exact HQ'.out _ _ ⟨rfl, HB3.out⟩
                    | true =>
                      have HT := Lib.hid (HST.out (HRI.out.1 rfl))
                      clear HST HRI
                      go_wp2
                      go_roundw
                      case rel => exact ⟨j + 1, by omega, by go_num, HT.out, HB3.out, HK3.out⟩
                      case measure => simp [intOf]; omega
                  · have hje : j = l.length := by omega
                    subst hje
                    have hs := chk_fits HBJ.out HYF.out HLL.out (all_len HFI.out)
                    rw [hs] at HQ'
                    clear hs
                    go_wp2
                    exact HQ'.out _ _ ⟨rfl, HB.out⟩
end Go.Proofs.YtphhdmopfmelbaaGreat

/- help: Help, by a gate, on records of int: what helpR computes. -/
namespace Go.Proofs.YtphhdmopfmelbaaGreat
open Go.RowKit Go.Proofs.YtphhdmopfmelbaaGreatW.PrintWords
set_option linter.unusedVariables false
set_option linter.unusedSimpArgs false

abbrev THRint : Nat := 143
abbrev THXint : Nat := 116
theorem hsz_int : ∃ i, Tryz.prog.info? 145 = some i ∧ i.size ≠ 0 := by
  obtain ⟨i, hi, hz⟩ := Option.map_eq_some_iff.1 size_Scxint
  exact ⟨i, hi, by simpa using hz⟩
/-- An SCX-record's three rows in memory: the records vs, the infos is, the flags fs. -/
structure Rowsint (w : World) (o : ScxO) (vs : List Nat) (is : List (Option Nat)) (fs : List Bool) (bv bi bf cv ci cf : Nat) (rv ri rf : List Value) : Prop where
  ev : o.sv = .slice (some ⟨bv, 0, none⟩) vs.length cv
  ei : o.si = .slice (some ⟨bi, 0, none⟩) vs.length ci
  ef : o.sf = .slice (some ⟨bf, 0, none⟩) vs.length cf
  hv : Blk w bv THRint ((vs.map fun b => pv (some b)) ++ rv)
  hi : Blk w bi THXint (is.map pv ++ ri)
  hf : Blk w bf 4 (fs.map Value.bool ++ rf)
  li : is.length = vs.length
  lf : fs.length = vs.length
/-- What a help may turn: the records of vs, one's fields, the SCX-record. -/
def HelpSint (vs : List Nat) (fb s : Nat) (k : Nat) : Prop := k ∈ vs ∨ k = fb ∨ k = s
/-- While Help goes. -/
structure HAtint (B : Nat) (g : Option Nat) (s fb : Nat) (vs : List Nat) (is : List (Option Nat)) (fs : List Bool) (w0 : World) (bv bi bf cv ci cf : Nat) (rv ri rf : List Value) (w : World) (ks : List Int) (R : Nat → Option RecO) (X : Nat → Option ScxO) (o : ScxO) : Prop where
  g0 : B ≤ w0.heap.size
  g1 : GAtI w B g ks
  st : StepI B g w0 w ks (HelpSint vs fb s)
  rep : Repint w R X
  rows : Rowsint w o vs is fs bv bi bf cv ci cf rv ri rf
  xs : X s = some o
  vsR : ∀ r ∈ vs, (R r).isSome
  isX : ∀ i ∈ is, Ok X i
  okO : Ok R o.old
  okN : Ok R o.new
  at0 : 0 ≤ o.at_
  at1 : o.at_ < vs.length
  fl0 : 0 ≤ o.fld
  fl1 : o.fld < (rg R (vs.getD o.at_.toNat 0)).fields.length
  fbe : (rg R (vs.getD o.at_.toNat 0)).fb = fb
section
variable {w w' w0 : World} {B s r : Nat} {g : Option Nat} {ks ks' : List Int} {R R' : Nat → Option RecO} {X X' : Nat → Option ScxO} {o : ScxO} {vs : List Nat} {is : List (Option Nat)} {fs : List Bool} {bv bi bf cv ci cf fb : Nat} {rv ri rf : List Value}
theorem HAtint.size (h : HAtint B g s fb vs is fs w0 bv bi bf cv ci cf rv ri rf w ks R X o) : B ≤ w.heap.size := Nat.le_trans h.g0 h.st.fr.size
theorem HAtint.vat (h : HAtint B g s fb vs is fs w0 bv bi bf cv ci cf rv ri rf w ks R X o) : vs.getD o.at_.toNat 0 ∈ vs := getD_mem (by have := h.at0; have := h.at1; omega) 0
theorem HAtint.blkS (h : HAtint B g s fb vs is fs w0 bv bi bf cv ci cf rv ri rf w ks R X o) {k : Nat} (hk : HelpSint vs fb s k) : ∃ T ys, Blk w k T ys ∧ T ≠ THRint ∧ T ≠ THXint ∧ T ≠ 4 := by
  rcases hk with hk | rfl | rfl
  · exact ⟨_, _, (h.rep.recs _ _ (rg_some (h.vsR _ hk))).1, by decide, by decide, by decide⟩
  · have := h.rep.fld _ _ (rg_some (h.vsR _ h.vat))
    rw [h.fbe] at this
    exact ⟨_, _, this, by decide, by decide, by decide⟩
  · exact ⟨_, _, h.rep.scx _ _ h.xs, by decide, by decide, by decide⟩
theorem Rowsint.fr (h : Rowsint w o vs is fs bv bi bf cv ci cf rv ri rf) (hg : GAtI w B g ks) {S : Nat → Prop} (hs : StepI B g w w' ks' S) (hS : ∀ k, S k → ∃ T ys, Blk w k T ys ∧ T ≠ THRint ∧ T ≠ THXint ∧ T ≠ 4) : Rowsint w' o vs is fs bv bi bf cv ci cf rv ri rf :=
  ⟨h.ev, h.ei, h.ef, hs.blk hg h.hv (by decide) (by decide) (fun hk => by obtain ⟨T, ys, hb, h1, _⟩ := hS _ hk; exact h1 (hb.inj h.hv).1),
    hs.blk hg h.hi (by decide) (by decide) (fun hk => by obtain ⟨T, ys, hb, _, h1, _⟩ := hS _ hk; exact h1 (hb.inj h.hi).1),
    hs.blk hg h.hf (by decide) (by decide) (fun hk => by obtain ⟨T, ys, hb, _, _, h1⟩ := hS _ hk; exact h1 (hb.inj h.hf).1), h.li, h.lf⟩
theorem Rowsint.cong {o' : ScxO} (h : Rowsint w o vs is fs bv bi bf cv ci cf rv ri rf) (h1 : o'.sv = o.sv) (h2 : o'.si = o.si) (h3 : o'.sf = o.sf) : Rowsint w o' vs is fs bv bi bf cv ci cf rv ri rf :=
  ⟨h1.trans h.ev, h2.trans h.ei, h3.trans h.ef, h.hv, h.hi, h.hf, h.li, h.lf⟩
/-- Nothing but the gate has turned. -/
theorem HAtint.same (h : HAtint B g s fb vs is fs w0 bv bi bf cv ci cf rv ri rf w ks R X o) (hs : StepI B g w w' ks' (fun _ => False)) (hr : Repint w' R X) : HAtint B g s fb vs is fs w0 bv bi bf cv ci cf rv ri rf w' ks' R X o :=
  ⟨h.g0, hs.gate, h.st.trans hs (fun _ _ hk => hk.elim), hr, h.rows.fr h.g1 hs (fun _ hk => hk.elim), h.xs, h.vsR, h.isX, h.okO, h.okN, h.at0, h.at1, h.fl0, h.fl1, h.fbe⟩
/-- One of the records has turned, but for its fields. -/
theorem HAtint.turnR (h : HAtint B g s fb vs is fs w0 bv bi bf cv ci cf rv ri rf w ks R X o) (hm : r ∈ vs) (hs : StepI B g w w' ks' (fun k => k = r)) {q : RecO} (hr : Repint w' (upd R r q) X) (h1 : q.fb = (rg R r).fb) (h2 : q.fields = (rg R r).fields) :
    HAtint B g s fb vs is fs w0 bv bi bf cv ci cf rv ri rf w' ks' (upd R r q) X o :=
  ⟨h.g0, hs.gate, h.st.trans hs (fun k _ hk => .inl (hk ▸ hm)), hr, h.rows.fr h.g1 hs (fun k hk => h.blkS (.inl (hk ▸ hm))), h.xs, fun b hb => upd_isSome _ (h.vsR b hb), h.isX, h.okO.upd r q, h.okN.upd r q, h.at0, h.at1, h.fl0,
    by rw [rg_upd]; split
       · rw [h2, ← ‹_ = r›]; exact h.fl1
       · exact h.fl1,
    by rw [rg_upd]; split
       · rw [h1, ← ‹_ = r›]; exact h.fbe
       · exact h.fbe⟩
/-- The SCX-record has turned, but for what never changes. -/
theorem HAtint.turnX (h : HAtint B g s fb vs is fs w0 bv bi bf cv ci cf rv ri rf w ks R X o) (hs : StepI B g w w' ks' (fun k => k = s)) {q : ScxO} (hr : Repint w' R (upd X s q)) (h1 : q.sv = o.sv) (h2 : q.si = o.si) (h3 : q.sf = o.sf) (h4 : q.at_ = o.at_) (h5 : q.fld = o.fld) (h6 : q.old = o.old) (h7 : q.new = o.new) :
    HAtint B g s fb vs is fs w0 bv bi bf cv ci cf rv ri rf w' ks' R (upd X s q) q :=
  ⟨h.g0, hs.gate, h.st.trans hs (fun k _ hk => .inr (.inr hk)), hr, (h.rows.cong h1 h2 h3).fr h.g1 hs (fun k hk => h.blkS (.inr (.inr hk))), upd_self _ _ _, h.vsR, fun i hi => (h.isX i hi).upd s q, h6 ▸ h.okO, h7 ▸ h.okN, h4 ▸ h.at0, h4 ▸ h.at1, h5 ▸ h.fl0, h4 ▸ h5 ▸ h.fl1, h4 ▸ h.fbe⟩
theorem HAtint.cv0 (h : HAtint B g s fb vs is fs w0 bv bi bf cv ci cf rv ri rf w ks R X o) : w.cell? ⟨s, 0, none⟩ = some (.slice (some ⟨bv, 0, none⟩) vs.length cv) := by rw [(h.rep.scx _ _ h.xs).cell, ← h.rows.ev]; rfl
theorem HAtint.ci0 (h : HAtint B g s fb vs is fs w0 bv bi bf cv ci cf rv ri rf w ks R X o) : w.cell? ⟨s, 1, none⟩ = some (.slice (some ⟨bi, 0, none⟩) vs.length ci) := by rw [(h.rep.scx _ _ h.xs).cell, ← h.rows.ei]; rfl
theorem HAtint.cf0 (h : HAtint B g s fb vs is fs w0 bv bi bf cv ci cf rv ri rf w ks R X o) : w.cell? ⟨s, 2, none⟩ = some (.slice (some ⟨bf, 0, none⟩) vs.length cf) := by rw [(h.rep.scx _ _ h.xs).cell, ← h.rows.ef]; rfl
theorem HAtint.c3 (h : HAtint B g s fb vs is fs w0 bv bi bf cv ci cf rv ri rf w ks R X o) : w.cell? ⟨s, 3, none⟩ = some (.int .i64 o.at_) := by rw [(h.rep.scx _ _ h.xs).cell]; rfl
theorem HAtint.c4 (h : HAtint B g s fb vs is fs w0 bv bi bf cv ci cf rv ri rf w ks R X o) : w.cell? ⟨s, 4, none⟩ = some (.int .i64 o.fld) := by rw [(h.rep.scx _ _ h.xs).cell]; rfl
theorem HAtint.c5 (h : HAtint B g s fb vs is fs w0 bv bi bf cv ci cf rv ri rf w ks R X o) : w.cell? ⟨s, 5, none⟩ = some (pv o.old) := by rw [(h.rep.scx _ _ h.xs).cell]; rfl
theorem HAtint.c6 (h : HAtint B g s fb vs is fs w0 bv bi bf cv ci cf rv ri rf w ks R X o) : w.cell? ⟨s, 6, none⟩ = some (pv o.new) := by rw [(h.rep.scx _ _ h.xs).cell]; rfl
theorem HAtint.vj (h : HAtint B g s fb vs is fs w0 bv bi bf cv ci cf rv ri rf w ks R X o) {j : Nat} (hj : j < vs.length) : w.cell? ⟨bv, j, none⟩ = some (.pointer (some ⟨vs[j], 0, none⟩)) := by
  rw [h.rows.hv.cell, List.getElem?_append_left (by simpa using hj)]; simp [List.getElem?_eq_getElem hj, hd]
theorem HAtint.ij (h : HAtint B g s fb vs is fs w0 bv bi bf cv ci cf rv ri rf w ks R X o) {j : Nat} (hj : j < is.length) : w.cell? ⟨bi, j, none⟩ = some (pv is[j]) := by
  rw [h.rows.hi.cell, List.getElem?_append_left (by simpa using hj)]; simp [List.getElem?_eq_getElem hj]
theorem HAtint.fj (h : HAtint B g s fb vs is fs w0 bv bi bf cv ci cf rv ri rf w ks R X o) {j : Nat} (hj : j < fs.length) : w.cell? ⟨bf, j, none⟩ = some (.bool fs[j]) := by
  rw [h.rows.hf.cell, List.getElem?_append_left (by simpa using hj)]; simp [List.getElem?_eq_getElem hj]
/-- Freeze, where it goes through; where it doesn't. -/
theorem HAtint.freeze_yes (h : HAtint B g s fb vs is fs w0 bv bi bf cv ci cf rv ri rf w ks R X o) (hl : ks.length ≤ 1000000000) (hm : r ∈ vs) {i : Option Nat} (hi : i ∈ is) (he : (rg R r).info = i) :
    Calls Tryz.prog 69 #[.pointer (some ⟨r, 0, none⟩), gvI g, pv i, .pointer (some ⟨s, 0, none⟩)] w fun e w' => e = .returned (.bool true) ∧ HAtint B g s fb vs is fs w0 bv bi bf cv ci cf rv ri rf w' (ks ++ [5]) (upd R r { rg R r with info := some s }) X o := by
  refine (freeze_int B g ks R X w h.rep h.g1 h.size hl r _ (rg_some (h.vsR r hm)) i (some s) (h.isX i hi) (Ok.of h.xs)).mono ?_
  rintro e w1 ⟨rfl, hs, hr⟩
  rw [if_pos he] at hr
  exact ⟨by rw [decide_eq_true he], h.turnR hm hs hr rfl rfl⟩
theorem HAtint.freeze_no (h : HAtint B g s fb vs is fs w0 bv bi bf cv ci cf rv ri rf w ks R X o) (hl : ks.length ≤ 1000000000) (hm : r ∈ vs) {i : Option Nat} (hi : i ∈ is) (he : ¬ (rg R r).info = i) :
    Calls Tryz.prog 69 #[.pointer (some ⟨r, 0, none⟩), gvI g, pv i, .pointer (some ⟨s, 0, none⟩)] w fun e w' => e = .returned (.bool false) ∧ HAtint B g s fb vs is fs w0 bv bi bf cv ci cf rv ri rf w' (ks ++ [5]) R X o := by
  have ho := rg_some (h.vsR r hm)
  refine (freeze_int B g ks R X w h.rep h.g1 h.size hl r _ ho i (some s) (h.isX i hi) (Ok.of h.xs)).mono ?_
  rintro e w1 ⟨rfl, hs, hr⟩
  rw [if_neg he] at hr
  have := h.turnR hm hs hr rfl rfl
  rw [show ({ rg R r with info := (rg R r).info } : RecO) = rg R r from rfl, upd_same ho] at this
  exact ⟨by rw [decide_eq_false he], this⟩
theorem HAtint.info_ (h : HAtint B g s fb vs is fs w0 bv bi bf cv ci cf rv ri rf w ks R X o) (hl : ks.length ≤ 1000000000) (hm : r ∈ vs) :
    Calls Tryz.prog 70 #[.pointer (some ⟨r, 0, none⟩), gvI g] w fun e w' => e = .returned (pv (rg R r).info) ∧ HAtint B g s fb vs is fs w0 bv bi bf cv ci cf rv ri rf w' (ks ++ [1]) R X o ∧ (binOp .eql THXint (pv (rg R r).info) (.pointer (some ⟨s, 0, none⟩))).run Tryz.prog w' = .ok (.bool (decide ((rg R r).info = some s))) w' := by
  have ho := rg_some (h.vsR r hm)
  refine (info_int B g ks R X w h.rep h.g1 h.size hl r _ ho).mono ?_
  rintro e w1 ⟨rfl, hs, hr⟩
  obtain ⟨i, hi, hsz⟩ := hsz_int
  have kn : ∀ {x : Option Nat}, Ok X x → Known w1 x := fun {x} hx b e => by
    obtain ⟨q, hq⟩ := Option.isSome_iff_exists.1 (hx b e)
    exact ⟨_, _, hr.scx _ _ hq⟩
  exact ⟨rfl, h.same hs hr, run_eql_ptr (P := Tryz.prog) (w := w1) (x := (rg R r).info) (y := some s) Tryz.underlying116 hi hsz (kn (hr.okInfo ho)) (kn (Ok.of h.xs))⟩
end
section
variable {R R1 R2 : Nat → Option RecO} {X : Nat → Option ScxO} {s : Nat} {o : ScxO} {vs : List Nat} {is : List (Option Nat)} {fs : List Bool} {kk mk : List Int}
theorem helpR_fail (h : frzR s R (vs.zip is) = (false, R1, kk)) : helpR R X s o vs is fs = if o.frozen then (true, kk ++ [1], R1, X) else (false, kk ++ [1, 2], R1, upd X s { o with state := 2 }) := by
  unfold helpR; simp only [h]; rfl
theorem helpR_ok (h : frzR s R (vs.zip is) = (true, R1, kk)) (hm : mrkR R1 (vs.zip fs) = (R2, mk)) : helpR R X s o vs is fs = (true, kk ++ 2 :: (mk ++ [5, 2]), swgR R2 (vs.getD o.at_.toNat 0) o.fld.toNat o.old o.new, upd X s { o with frozen := true, state := 1 }) := by
  unfold helpR; simp only [h, hm]; rfl
/-- A round of the first loop. -/
def FrzTo (s : Nat) (L : List (Nat × Option Nat)) (R0 : Nat → Option RecO) (j : Nat) (kp : List Int) (R : Nat → Option RecO) : Prop := frzR s R0 L = ((frzR s R (L.drop j)).1, (frzR s R (L.drop j)).2.1, kp ++ (frzR s R (L.drop j)).2.2)
theorem FrzTo.zero (s : Nat) (L : List (Nat × Option Nat)) (R0 : Nat → Option RecO) : FrzTo s L R0 0 [] R0 := by unfold FrzTo; simp
theorem zip_drop {α β : Type} {l : List α} {m : List β} {j : Nat} (h1 : j < l.length) (h2 : j < m.length) : (l.zip m).drop j = (l[j], m[j]) :: (l.zip m).drop (j + 1) := by
  rw [List.drop_eq_getElem_cons (by simp; omega)]; simp
theorem FrzTo.yes {j : Nat} {kp : List Int} (h : FrzTo s (vs.zip is) R j kp R1) (h1 : j < vs.length) (h2 : j < is.length) (he : (rg R1 vs[j]).info = is[j]) : FrzTo s (vs.zip is) R (j + 1) (kp ++ [5]) (upd R1 vs[j] { rg R1 vs[j] with info := some s }) := by
  unfold FrzTo at h ⊢
  rw [h, zip_drop h1 h2]
  simp only [frzR, if_pos he, List.append_assoc, List.singleton_append]
theorem FrzTo.own {j : Nat} {kp : List Int} (h : FrzTo s (vs.zip is) R j kp R1) (h1 : j < vs.length) (h2 : j < is.length) (he : ¬ (rg R1 vs[j]).info = is[j]) (hs : (rg R1 vs[j]).info = some s) : FrzTo s (vs.zip is) R (j + 1) (kp ++ [5] ++ [1]) R1 := by
  unfold FrzTo at h ⊢
  rw [h, zip_drop h1 h2]
  simp only [frzR, if_neg he, if_pos hs, List.append_assoc, List.singleton_append, List.cons_append, List.nil_append]
theorem FrzTo.fail {j : Nat} {kp : List Int} (h : FrzTo s (vs.zip is) R j kp R1) (h1 : j < vs.length) (h2 : j < is.length) (he : ¬ (rg R1 vs[j]).info = is[j]) (hs : ¬ (rg R1 vs[j]).info = some s) : frzR s R (vs.zip is) = (false, R1, kp ++ [5] ++ [1]) := by
  unfold FrzTo at h
  rw [h, zip_drop h1 h2]
  simp only [frzR, if_neg he, if_neg hs, List.append_assoc, List.singleton_append]
theorem FrzTo.done {kp : List Int} (h : FrzTo s (vs.zip is) R vs.length kp R1) : frzR s R (vs.zip is) = (true, R1, kp) := by
  unfold FrzTo at h
  rw [h, List.drop_eq_nil_iff.2 (by simp; omega)]
  simp [frzR]
def MrkTo (L : List (Nat × Bool)) (R0 : Nat → Option RecO) (j : Nat) (kp : List Int) (R : Nat → Option RecO) : Prop := mrkR R0 L = ((mrkR R (L.drop j)).1, kp ++ (mrkR R (L.drop j)).2)
theorem MrkTo.zero (L : List (Nat × Bool)) (R0 : Nat → Option RecO) : MrkTo L R0 0 [] R0 := by unfold MrkTo; simp
theorem MrkTo.yes {j : Nat} {kp : List Int} (h : MrkTo (vs.zip fs) R j kp R1) (h1 : j < vs.length) (h2 : j < fs.length) (he : fs[j] = true) : MrkTo (vs.zip fs) R (j + 1) (kp ++ [2]) (upd R1 vs[j] { rg R1 vs[j] with mark := true }) := by
  unfold MrkTo at h ⊢
  rw [h, zip_drop h1 h2]
  simp only [mrkR, he, if_true, List.append_assoc, List.singleton_append]
theorem MrkTo.no {j : Nat} {kp : List Int} (h : MrkTo (vs.zip fs) R j kp R1) (h1 : j < vs.length) (h2 : j < fs.length) (he : fs[j] = false) : MrkTo (vs.zip fs) R (j + 1) kp R1 := by
  unfold MrkTo at h ⊢
  rw [h, zip_drop h1 h2]
  simp only [mrkR, he, Bool.false_eq_true, if_false]
theorem MrkTo.done {kp : List Int} (h : MrkTo (vs.zip fs) R vs.length kp R1) : mrkR R (vs.zip fs) = (R1, kp) := by
  unfold MrkTo at h
  rw [h, List.drop_eq_nil_iff.2 (by simp; omega)]
  simp [mrkR]
end

set_option maxHeartbeats 4000000 in
set_option maxRecDepth 100000 in
theorem help_int (B : Nat) (g : Option Nat) (ks : List Int) (R : Nat → Option RecO) (X : Nat → Option ScxO) (w : World) (s fb : Nat) (o : ScxO) (vs : List Nat) (is : List (Option Nat)) (fs : List Bool) (bv bi bf cv ci cf : Nat) (rv ri rf : List Value)
    (h : HAtint B g s fb vs is fs w bv bi bf cv ci cf rv ri rf w ks R X o) (hl : ks.length ≤ 900000000) (hn : vs.length ≤ 1000000) :
    Calls Tryz.prog 49 #[gvI g, .pointer (some ⟨s, 0, none⟩)] w fun e w' => e = .returned (.bool (helpR R X s o vs is fs).1) ∧ StepI B g w w' (ks ++ (helpR R X s o vs is fs).2.1) (HelpSint vs fb s) ∧ Repint w' (helpR R X s o vs is fs).2.2.1 (helpR R X s o vs is fs).2.2.2 := by
  refine calls_hide fun Q HQ => ?_
  have HQ' := Lib.hid HQ
  have HH := Lib.hid h
  have HLI := Lib.hid h.rows.li
  have HLF := Lib.hid h.rows.lf
  clear HQ h
  go_enter Tryz.func49, Tryz.ntmps49
  have hc0 := HH.out.cv0
  go_wp2
  clear hc0
  go_loopw [14] (fun k wr => ∃ (j : Nat) (kp : List Int) (R1 : Nat → Option RecO), j ≤ vs.length ∧ k = .int .i64 j ∧ kp.length ≤ 2 * j ∧ FrzTo s (vs.zip is) R j kp R1 ∧ HAtint B g s fb vs is fs w bv bi bf cv ci cf rv ri rf wr (ks ++ kp) R1 X o) (fun k _ => vs.length - (intOf k).toNat)
  case atStart => exact ⟨0, [], R, Nat.zero_le _, rfl, by simp, FrzTo.zero _ _ _, by simpa using HH.out⟩
  case round =>
    clear HH
    obtain ⟨j, kp, R1, hj, rfl, hkp, hF, hH⟩ := hrel
    have HF := Lib.hid hF
    have HH := Lib.hid hH
    have HK := Lib.hid (show (ks ++ kp).length ≤ 950000000 by simp; omega)
    clear hF hH
    by_cases hlt : j < vs.length
    · have hlt2 : j < is.length := by rw [HLI.out]; exact hlt
      have hcv := HH.out.vj hlt
      have hci := HH.out.ij hlt2
      have hc1 := HH.out.ci0
      have HM := Lib.hid (List.getElem_mem hlt)
      have HMI := Lib.hid (List.getElem_mem hlt2)
      have HY := Lib.hid (HF.out.yes hlt hlt2)
      have HO := Lib.hid (HF.out.own hlt hlt2)
      have HN := Lib.hid (HF.out.fail hlt hlt2)
      generalize vs[j] = r at *
      generalize is[j] = i at *
      clear hlt2 HF
      by_cases he : (rg R1 r).info = i
      · have HC := Lib.hid (HH.out.freeze_yes (by have := HK.out; omega) HM.out HMI.out he)
        have HY2 := Lib.hid (HY.out he)
        clear he HN HO HY HH HQ'
        go_wp2_with fail
        refine HC.out.mono ?_
        rintro e w1 ⟨rfl, hH⟩
        have HH := Lib.hid hH
        clear hH HC hcv hci hc1
        go_wp2
        go_roundw
        case rel => exact ⟨j + 1, _, _, by omega, by go_num, by simp; omega, HY2.out, by simpa using HH.out⟩
        case measure => simp [intOf]; omega
      · have HC := Lib.hid (HH.out.freeze_no (by have := HK.out; omega) HM.out HMI.out he)
        clear HY HH
        go_wp2_with fail
        refine HC.out.mono ?_
        rintro e w1 ⟨rfl, hH⟩
        have HI := Lib.hid (hH.info_ (by have := HK.out; simp at this ⊢; omega) HM.out)
        clear hH HC hcv hci hc1 HM HMI
        have HO2 := Lib.hid (HO.out he)
        have HN2 := Lib.hid (HN.out he)
        clear he HO HN
        go_wp2_with fail
        refine HI.out.mono ?_
        rintro e w2 ⟨rfl, hH, hcmp⟩
        have HH := Lib.hid hH
        clear hH HI
        by_cases hs : (rg R1 r).info = some s
        · rw [decide_eq_true hs] at hcmp
          have HO3 := Lib.hid (HO2.out hs)
          clear hs HO2 HN2 HQ'
          generalize (rg R1 r).info = q at *
          go_wp2
          go_roundw
          case rel => exact ⟨j + 1, _, _, by omega, by go_num, by simp; omega, HO3.out, by simpa using HH.out⟩
          case measure => simp [intOf]; omega
        · rw [decide_eq_false hs] at hcmp
          have HN3 := Lib.hid (helpR_fail (X := X) (o := o) (fs := fs) (HN2.out hs))
          clear hs HO2 HN2
          generalize (rg R1 r).info = q at *
          have HA := Lib.hid (allfrozen_int B g _ R1 X w2 HH.out.rep HH.out.g1 HH.out.size (by have := HK.out; simp at this ⊢; omega) s o HH.out.xs)
          have hfz : o.frozen = true ∨ o.frozen = false := by cases o.frozen <;> simp
          rcases hfz with hfz | hfz
          · rw [hfz] at HA
            rw [if_pos hfz] at HN3
            rw [HN3.out] at HQ'
            clear hfz HN3
            go_wp2_with fail
            refine HA.out.mono ?_
            rintro e w3 ⟨rfl, hst, hrep⟩
            have HZ := Lib.hid (HQ'.out _ w3 ⟨rfl, by have := (HH.out.same hst hrep).st; simpa using this, hrep⟩)
            clear hst hrep HA HH HQ' hcmp
            go_wp2
            exact HZ.out
          · rw [hfz] at HA
            rw [if_neg (by simp [hfz])] at HN3
            rw [HN3.out] at HQ'
            clear hfz HN3
            go_wp2_with fail
            refine HA.out.mono ?_
            rintro e w3 ⟨rfl, hst, hrep⟩
            have HH2 := Lib.hid (HH.out.same hst hrep)
            have HA2 := Lib.hid (abort_int B g _ R1 X w3 HH2.out.rep HH2.out.g1 HH2.out.size (by have := HK.out; simp at this ⊢; omega) s o HH2.out.xs)
            clear hst hrep HA HH hcmp
            go_wp2_with fail
            refine HA2.out.mono ?_
            rintro e w4 ⟨rfl, hst, hrep⟩
            have HZ := Lib.hid (HQ'.out _ w4 ⟨rfl, by have := (HH2.out.turnX hst hrep rfl rfl rfl rfl rfl rfl rfl).st; simpa using this, hrep⟩)
            clear hst hrep HA2 HH2 HQ'
            go_wp2
            exact HZ.out
    · obtain rfl : j = vs.length := by omega
      have HD := Lib.hid HF.out.done
      have HA := Lib.hid (setallfrozen_int B g _ R1 X wr HH.out.rep HH.out.g1 HH.out.size (by have := HK.out; omega) s o HH.out.xs)
      clear HF hlt hj
      go_wp2_with fail
      refine HA.out.mono ?_
      rintro e w1 ⟨rfl, hst, hrep⟩
      have HH1 := Lib.hid (HH.out.turnX hst hrep rfl rfl rfl rfl rfl rfl rfl)
      clear hst hrep HA HH
      have hc0 := HH1.out.cv0
      go_wp2
      clear hc0
      go_loopw [52] (fun k wr => ∃ (j : Nat) (mp : List Int) (R2 : Nat → Option RecO), j ≤ vs.length ∧ k = .int .i64 j ∧ mp.length ≤ j ∧ MrkTo (vs.zip fs) R1 j mp R2 ∧ HAtint B g s fb vs is fs w bv bi bf cv ci cf rv ri rf wr (ks ++ kp ++ [2] ++ mp) R2 (upd X s { o with frozen := true }) { o with frozen := true }) (fun k _ => vs.length - (intOf k).toNat)
      case atStart => exact ⟨0, [], R1, Nat.zero_le _, rfl, by simp, MrkTo.zero _ _, by simpa using HH1.out⟩
      case round =>
        clear HH1
        obtain ⟨j, mp, R2, hj, rfl, hmp, hF, hH⟩ := hrel
        have HF := Lib.hid hF
        have HH := Lib.hid hH
        have HK2 := Lib.hid (show (ks ++ kp ++ [2] ++ mp).length ≤ 960000000 by have := HK.out; simp at this ⊢; omega)
        clear hF hH
        by_cases hlt : j < vs.length
        · have hlt2 : j < fs.length := by rw [HLF.out]; exact hlt
          have hcv := HH.out.vj hlt
          have hci := HH.out.fj hlt2
          have hc1 := HH.out.cf0
          have HM := Lib.hid (List.getElem_mem hlt)
          have HY := Lib.hid (HF.out.yes hlt hlt2)
          have HN := Lib.hid (HF.out.no hlt hlt2)
          generalize vs[j] = r at *
          generalize fs[j] = f at *
          clear HF
          cases f with
          | true =>
            have HC := Lib.hid (mark_int B g _ R2 _ wr HH.out.rep HH.out.g1 HH.out.size (by have := HK2.out; omega) r _ (rg_some (HH.out.vsR r HM.out)))
            have HY2 := Lib.hid (HY.out rfl)
            clear HY HN HQ'
            go_wp2_with fail
            refine HC.out.mono ?_
            rintro e w2 ⟨rfl, hst, hrep⟩
            have HH2 := Lib.hid (HH.out.turnR HM.out hst hrep rfl rfl)
            clear hst hrep HC HH hcv hci hc1
            go_wp2
            go_roundw
            case rel => exact ⟨j + 1, _, _, by omega, by go_num, by simp; omega, HY2.out, by simpa using HH2.out⟩
            case measure => simp [intOf]; omega
          | false =>
            have HY2 := Lib.hid (HN.out rfl)
            clear HY HN HQ'
            go_wp2
            go_roundw
            case rel => exact ⟨j + 1, _, _, by omega, by go_num, by omega, HY2.out, HH.out⟩
            case measure => simp [intOf]; omega
        · obtain rfl : j = vs.length := by omega
          have HE := Lib.hid (helpR_ok (X := X) (o := o) HD.out HF.out.done)
          rw [HE.out] at HQ'
          clear HE HD HF
          have h3 := HH.out.c3
          have h4 := HH.out.c4
          have h5 := HH.out.c5
          have h6 := HH.out.c6
          have h0 := HH.out.cv0
          have a0 := HH.out.at0
          have a1 := HH.out.at1
          have hv := HH.out.vj (j := o.at_.toNat) (by simp only at a0 a1; omega)
          have HV := Lib.hid (show vs.getD o.at_.toNat 0 = vs[o.at_.toNat]'(by simp only at a0 a1; omega) by simp [List.getD_eq_getElem?_getD, List.getElem?_eq_getElem (show o.at_.toNat < vs.length by simp only at a0 a1; omega)])
          have HVM := Lib.hid HH.out.vat
          simp only at h3 h4 h5 h6 a0 a1 HVM
          rw [HV.out] at HVM HQ'
          have HFL := Lib.hid HH.out.fl1
          have HFB := Lib.hid HH.out.fbe
          simp only [HV.out] at HFL HFB
          generalize vs[o.at_.toNat]'(by omega) = r at *
          have HHd : Repint wr.drew R2 (upd X s { o with frozen := true }) := HH.out.rep.fr (S := fun _ => False) (Fr.refl wr _).drew (fun _ _ _ => ⟨id, id⟩) (fun _ _ _ => id)
          have HSd : StepI B g wr wr.drew (ks ++ kp ++ [2] ++ mp) (fun _ => False) := HH.out.g1.fr (Fr.refl wr _).drew (fun _ _ => id)
          have HH2 := Lib.hid (HH.out.same HSd HHd)
          have HC := Lib.hid (swing_int B g _ R2 _ wr.drew HHd HH2.out.g1 HH2.out.size (by have := HK2.out; omega) r _ (rg_some (HH.out.vsR r HVM.out)) o.fld HH.out.fl0 HFL.out o.old o.new HH.out.okO HH.out.okN)
          have HS1 := Lib.hid (HH.out.fl0)
          clear HH HHd HSd hlt hj
          go_wp2_with fail
          refine wp_region_still_tail 23 (by kernel_rfl) (by kernel_rfl) ?_
          simp only [List.take_succ_cons, List.take_zero, List.drop_succ_cons, List.drop_zero]
          iterate 23 still_step
          refine wpStill_nil ?_
          change wpList _ _ _ _ _ wr.drew
          go_wp2_with fail
          refine HC.out.mono ?_
          rintro e w2 ⟨rfl, hst, hrep⟩
          have HST := Lib.hid (HH2.out.st.trans hst (fun k _ hk => .inr (.inl (hk.trans HFB.out))))
          have HR2 := Lib.hid hrep
          clear hst hrep HC h0 h3 h4 h5 h6 hv
          have HC2 := Lib.hid (commit_int B g _ _ _ w2 HR2.out HST.out.gate (Nat.le_trans HH2.out.g0 HST.out.fr.size) (by have := HK2.out; simp at this ⊢; omega) s _ (upd_self _ _ _))
          go_wp2_with fail
          refine HC2.out.mono ?_
          rintro e w3 ⟨rfl, hst, hrep⟩
          rw [upd_upd] at hrep
          have HZ := Lib.hid (HQ'.out _ w3 ⟨rfl, by have := HST.out.trans hst (fun k _ hk => .inr (.inr hk)); simpa using this, hrep⟩)
          clear hst hrep HC2 HR2 HST HH2 HQ'
          go_wp2
          exact HZ.out
end Go.Proofs.YtphhdmopfmelbaaGreat
