/- Joined texts: HelpC HelpK HelpE. -/
import Derived.Test.YtphhdmopfmelbaaGreatM4
import Derived.StillTailTactics
import Derived.BigQuiet

/- help: within, formed. -/
namespace Go.Proofs.YtphhdmopfmelbaaGreat
open Go.RowKit Go.Proofs.YtphhdmopfmelbaaGreatW.PrintWords
set_option linter.unusedVariables false
set_option linter.unusedSimpArgs false

/-- n from lo on and below hi. -/
def inB (n lo hi : Int) : Bool := decide (lo ≤ n) && decide (n < hi)
theorem inB_true {n lo hi : Int} : inB n lo hi = true ↔ inH n lo hi := by simp [inB, inH]
theorem inB_false {n lo hi : Int} : inB n lo hi = false ↔ ¬ inH n lo hi := by rw [← inB_true]; simp
theorem help_within (n lo hi : Int) (w : World) : Calls Tryz.prog 48 #[.int .i64 n, .int .i64 lo, .int .i64 hi] w fun e w' => e = .returned (.bool (inB n lo (hi + 1))) ∧ w' = w := by
  by_cases h0 : lo ≤ n
  · by_cases h1 : n ≤ hi
    · rw [inB_true.2 ⟨h0, by omega⟩]
      go_enter Tryz.func48, Tryz.ntmps48
      go_wp2
      go_ret
      exact ⟨rfl, rfl⟩
    · rw [inB_false.2 (fun h => by have := h.2; omega)]
      go_enter Tryz.func48, Tryz.ntmps48
      go_wp2
      go_ret
      exact ⟨rfl, rfl⟩
  · rw [inB_false.2 (fun h => h0 h.1)]
    go_enter Tryz.func48, Tryz.ntmps48
    go_wp2
    go_ret
    exact ⟨rfl, rfl⟩
theorem help_within_of (n lo hi : Int) (r : Bool) (h : inB n lo (hi + 1) = r) (w : World) : Calls Tryz.prog 48 #[.int .i64 n, .int .i64 lo, .int .i64 hi] w fun e w' => e = .returned (.bool r) ∧ w' = w := h ▸ help_within n lo hi w
theorem wrap_pred (m : Nat) (hm : m < 1000000000000000) : IntKind.i64.wrap ((m : Int) - 1) = (m : Int) - 1 := by
  rw [IntKind.wrap_i64]; omega
/-- within, as a region that is walked step by step asks it: the upper bound a length less one. -/
theorem help_within_len (n lo : Int) (m : Nat) (hm : m < 1000000000000000) (r : Bool) (h : inB n lo m = r) (w : World) : Calls Tryz.prog 48 #[.int .i64 n, .int .i64 lo, .int .i64 ((m : Int) - 1)] w fun e w' => e = .returned (.bool r) ∧ w' = w := by
  exact help_within_of n lo _ r (by rw [Int.sub_add_cancel]; exact h) w
theorem help_within' (n lo : Int) (m : Nat) (w : World) : Calls Tryz.prog 48 #[.int .i64 n, .int .i64 lo, .int .i64 ((m : Int) - 1)] w fun e w' => e = .returned (.bool (inB n lo m)) ∧ w' = w := by
  have := help_within n lo ((m : Int) - 1) w
  rwa [Int.sub_add_cancel] at this
theorem take_one'' {α : Type} (l : List α) (j : Nat) (h : j < l.length) : l.take j ++ [l[j]] = l.take (j + 1) := (List.take_succ_eq_append_getElem h).symm
/-- One further element holds. -/
theorem all_take {α : Type} {P : α → Prop} {l : List α} {j : Nat} (hj : j < l.length) (h : ∀ x ∈ l.take j, P x) (hx : P l[j]) : ∀ x ∈ l.take (j + 1), P x := by
  rw [← take_one'' l j hj]
  intro x hm
  rcases List.mem_append.1 hm with hm | hm
  · exact h x hm
  · simp at hm; subst hm; exact hx
theorem all_len {α : Type} {P : α → Prop} {l : List α} (h : ∀ x ∈ l.take l.length, P x) : ∀ x ∈ l, P x := by rwa [List.take_length] at h

set_option maxHeartbeats 4000000 in
set_option maxRecDepth 100000 in
theorem help_formed (w : World) (v : WV) (d : WD) (hv : v.Reads w d) (hl : d.fields.length < 1000000000000000) (hl3 : d.states.length < 1000000000000000) (hr : ∀ r ∈ d.fields, r.length < 1000000000000000) :
    Calls Tryz.prog 67 #[v.val d] w fun e w' => ∃ r, e = .returned (.bool r) ∧ (r = true ↔ d.Formed) ∧ Below w.heap.size w w' := by
  refine calls_hide fun Q HQ => ?_
  have HN := Lib.hid (show ∀ w', Below w.heap.size w w' → ¬ d.Formed → Q (.returned (.bool false)) w' from fun w' hb hn => HQ _ _ ⟨false, rfl, by simp [hn], hb⟩)
  have HY := Lib.hid (show ∀ w', Below w.heap.size w w' → d.Formed → Q (.returned (.bool true)) w' from fun w' hb hn => HQ _ _ ⟨true, rfl, by simp [hn], hb⟩)
  have HV := Lib.hid hv
  have HR := Lib.hid hr
  have HB1 := Lib.hid (Blk.new w 60 (v.cells d))

  clear HQ hv hr
  go_enter Tryz.func67, Tryz.ntmps67
  by_cases e1 : d.infos.length = d.fields.length
  case neg =>
    have HF := Lib.hid (fun w' hb => HN.out w' hb (fun h => e1 h.e1))
    clear HN HY HV HR HB1
    go_wp2
    exact HF.out _ ((Below.refl _ _).alloc (Nat.le_refl _) _)
  by_cases e2 : d.marks.length = d.fields.length
  case neg =>
    have HF := Lib.hid (fun w' hb => HN.out w' hb (fun h => e2 h.e2))
    clear HN HY HV HR HB1
    go_wp2
    exact HF.out _ ((Below.refl _ _).alloc (Nat.le_refl _) _)
  by_cases e4 : d.frozen.length = d.states.length
  case neg =>
    have HF := Lib.hid (fun w' hb => HN.out w' hb (fun h => e4 h.e4))
    clear HN HY HV HR HB1
    go_wp2
    exact HF.out _ ((Below.refl _ _).alloc (Nat.le_refl _) _)
  have E1 := Lib.hid e1
  have E2 := Lib.hid e2
  have E4 := Lib.hid e4
  go_wp2
  clear e1 e2 e4
  generalize hW : w.alloc (.cells #[.slice v.A0 d.fields.length v.c0, .slice v.A1 d.fields.length v.c1, .slice v.A2 d.fields.length v.c2, .slice v.A3 d.states.length v.c3, .slice v.A4 d.states.length v.c4] 60) = w0
  have HB0 := Lib.hid (show Below w.heap.size w w0 by rw [← hW]; exact (Below.refl _ _).alloc (Nat.le_refl _) _)
  have HK0 := Lib.hid (show Blk w0 w.heap.size 60 (v.cells d) by rw [← hW]; have h := HB1.out; simp only [WV.cells, E1.out, E2.out, E4.out] at h ⊢; exact h)
  clear hW HB1
  go_loopw [37] (fun k wr => ∃ j : Nat, j ≤ d.fields.length ∧ k = .int .i64 j ∧ (∀ r ∈ d.fields.take j, ∀ n ∈ r, inH n (-1) d.fields.length) ∧ (∀ n ∈ d.infos.take j, inH n (-1) d.states.length) ∧ Below w.heap.size w wr ∧ Blk wr w.heap.size 60 (v.cells d)) (fun k _ => d.fields.length - (intOf k).toNat)
  case atStart => exact ⟨0, Nat.zero_le _, rfl, by simp, by simp, HB0.out, HK0.out⟩
  case round =>
    clear HB0 HK0
    obtain ⟨j, hj, rfl, hr1, hr2, hb, hk⟩ := hrel
    have H1 := Lib.hid hr1
    have H2 := Lib.hid hr2
    have HB := Lib.hid hb
    have HK := Lib.hid hk
    clear hr1 hr2 hb hk
    by_cases hlt : j < d.fields.length
    · obtain ⟨ad, hA, A', c', hc0, _, hrow⟩ := row_at HV.out.h0 hlt
      have hc : wr.cell? (ad.add j) = some (.slice A' d.fields[j].length c') := pw_cell_below HB.out hc0
      have HMem := Lib.hid (List.getElem_mem hlt)
      have HS1 := Lib.hid (all_take (P := fun r => ∀ n ∈ r, inH n (-1) d.fields.length) hlt H1.out)
      have hrl := HR.out _ (List.getElem_mem hlt)
      generalize d.fields[j] = row at *
      have HRow := Lib.hid hrow
      have hk0 : wr.cell? ⟨w.heap.size, 0, none⟩ = some (.slice v.A0 d.fields.length v.c0) := HK.out.cell 0
      obtain ⟨A0, c0, A1, c1, A2, c2, A3, c3, A4, c4⟩ := v
      simp only at hA hk0
      subst hA
      clear hc0 hrow H1
      go_wp2
      clear hk0 hc
      go_loopw [44] (fun k wr => ∃ q : Nat, q ≤ row.length ∧ k = .int .i64 q ∧ (∀ n ∈ row.take q, inH n (-1) d.fields.length) ∧ Below w.heap.size w wr ∧ Blk wr w.heap.size 60 (WV.cells ⟨some ad, c0, A1, c1, A2, c2, A3, c3, A4, c4⟩ d)) (fun k _ => row.length - (intOf k).toNat)
      case atStart => exact ⟨0, Nat.zero_le _, rfl, by simp, HB.out, HK.out⟩
      case round =>
        clear HB HK
        obtain ⟨q, hq, rfl, hr1, hb, hk⟩ := hrel
        have H1 := Lib.hid hr1
        have HB := Lib.hid hb
        have HK := Lib.hid hk
        clear hr1 hb hk
        by_cases hlt2 : q < row.length
        · obtain ⟨ad2, hA2, hc2⟩ := int_at HRow.out hlt2
          have hc3 : wr.cell? (ad2.add q) = some (.int .i64 row[q]) := pw_cell_below HB.out hc2
          have HS2 := Lib.hid (all_take (P := fun n => inH n (-1) d.fields.length) hlt2 H1.out)
          have HM2 := Lib.hid (List.getElem_mem hlt2)
          generalize row[q] = n at *
          subst hA2
          clear hc2 H1
          have hk0 : wr.cell? ⟨w.heap.size, 0, none⟩ = some (.slice (some ad) d.fields.length c0) := HK.out.cell 0
          by_cases hin : inH n (-1) d.fields.length
          · have HW := Lib.hid (help_within_of n (-1) ((d.fields.length : Int) - 1) true (by rw [inB_true, Int.sub_add_cancel]; exact hin))
            have HT := Lib.hid (HS2.out hin)
            clear hin HS2
            go_wp2_with fail
            refine (HW.out _).mono ?_
            rintro e w1 ⟨rfl, rfl⟩
            go_wp2
            go_roundw
            case rel => exact ⟨q + 1, by omega, by go_num, HT.out, HB.out, HK.out⟩
            case measure => simp [intOf]; omega
          · have HW := Lib.hid (help_within_of n (-1) ((d.fields.length : Int) - 1) false (by rw [inB_false, Int.sub_add_cancel]; exact hin))
            have HF := Lib.hid (HN.out wr HB.out (fun h => hin (h.hF _ HMem.out _ HM2.out)))
            clear hin HS2 HN HY
            go_wp2_with fail
            refine (HW.out _).mono ?_
            rintro e w1 ⟨rfl, rfl⟩
            go_wp2
            exact HF.out
        · obtain rfl : q = row.length := by omega
          have HT := Lib.hid (HS1.out (all_len H1.out))
          have e1 := E1.out
          obtain ⟨ad2, hA2, hc2⟩ := int_at HV.out.h1 (j := j) (by omega)
          have hc3 : _ = some (Value.int .i64 (d.infos[j]'(by omega))) := pw_cell_below HB.out hc2
          simp only at hA2
          subst hA2
          have HMi := Lib.hid (List.getElem_mem (l := d.infos) (n := j) (by omega))
          have HS2 := Lib.hid (all_take (P := fun n => inH n (-1) d.states.length) (l := d.infos) (j := j) (show j < d.infos.length by omega) H2.out)
          generalize d.infos[j]'(by omega) = n at *
          clear hc2 H1 HS1 hlt2 hq HRow
          have hk1 : wr.cell? ⟨w.heap.size, 1, none⟩ = some (.slice (some ad2) d.infos.length c1) := HK.out.cell 1
          have hk3 : wr.cell? ⟨w.heap.size, 3, none⟩ = some (.slice A3 d.states.length c3) := HK.out.cell 3
          have e1' := E1.out
          by_cases hin : inH n (-1) d.states.length
          · have HW := Lib.hid (help_within_of n (-1) ((d.states.length : Int) - 1) true (by rw [inB_true, Int.sub_add_cancel]; exact hin))
            have HT2 := Lib.hid (HS2.out hin)
            clear hin HS2 H2
            go_wp2
            go_quiet ((go_at_call 48; exact Calls.quiet_of_same (HW.out _)))
            go_wp2
            go_roundw
            case rel => exact ⟨j + 1, by omega, by go_num, HT.out, HT2.out, pw_below_drewN HB.out _, HK.out⟩
            case measure => simp [intOf]; omega
          · have HW := Lib.hid (help_within_of n (-1) ((d.states.length : Int) - 1) false (by rw [inB_false, Int.sub_add_cancel]; exact hin))
            have HF := Lib.hid (fun w' hb => HN.out w' hb (fun h => hin (h.hI _ HMi.out)))
            clear hin HS2 HN HY H2
            go_wp2
            go_quiet ((go_at_call 48; exact Calls.quiet_of_same (HW.out _)))
            go_wp2
            exact HF.out _ (pw_below_drewN HB.out _)
    · obtain rfl : j = d.fields.length := by omega
      have HF1 := Lib.hid (all_len H1.out)
      have HF2 := Lib.hid (all_len (P := fun n => inH n (-1) d.states.length) (l := d.infos) (by rw [E1.out]; exact H2.out))
      clear H1 H2 hlt hj
      have hk3 : wr.cell? ⟨w.heap.size, 3, none⟩ = some (.slice v.A3 d.states.length v.c3) := HK.out.cell 3
      go_wp2
      clear hk3
      go_loopw [71] (fun k wr => ∃ q : Nat, q ≤ d.states.length ∧ k = .int .i64 q ∧ (∀ n ∈ d.states.take q, inH n 0 3) ∧ Below w.heap.size w wr) (fun k _ => d.states.length - (intOf k).toNat)
      case atStart => exact ⟨0, Nat.zero_le _, rfl, by simp, HB.out⟩
      case round =>
        clear HB HK
        obtain ⟨q, hq, rfl, hr1, hb⟩ := hrel
        have H1 := Lib.hid hr1
        have HB := Lib.hid hb
        clear hr1 hb
        by_cases hlt2 : q < d.states.length
        · obtain ⟨ad2, hA2, hc2⟩ := int_at HV.out.h3 hlt2
          have hc3 : wr.cell? (ad2.add q) = some (.int .i64 d.states[q]) := pw_cell_below HB.out hc2
          have HS2 := Lib.hid (all_take (P := fun n => inH n 0 3) hlt2 H1.out)
          have HM2 := Lib.hid (List.getElem_mem hlt2)
          generalize d.states[q] = n at *
          obtain ⟨A0, c0, A1, c1, A2, c2, A3, c3, A4, c4⟩ := v
          simp only at hA2
          subst hA2
          clear hc2 H1
          by_cases hin : inH n 0 3
          · have HW := Lib.hid (help_within_of n 0 2 true (by rw [inB_true]; exact hin))
            have HT := Lib.hid (HS2.out hin)
            clear hin HS2
            go_wp2_with fail
            refine (HW.out _).mono ?_
            rintro e w1 ⟨rfl, rfl⟩
            go_wp2
            go_roundw
            case rel => exact ⟨q + 1, by omega, by go_num, HT.out, HB.out⟩
            case measure => simp [intOf]; omega
          · have HW := Lib.hid (help_within_of n 0 2 false (by rw [inB_false]; exact hin))
            have HF := Lib.hid (HN.out wr HB.out (fun h => hin (h.hS _ HM2.out)))
            clear hin HS2 HN HY
            go_wp2_with fail
            refine (HW.out _).mono ?_
            rintro e w1 ⟨rfl, rfl⟩
            go_wp2
            exact HF.out
        · obtain rfl : q = d.states.length := by omega
          have HF := Lib.hid (HY.out wr HB.out ⟨E1.out, E2.out, E4.out, HF1.out, HF2.out, all_len H1.out⟩)
          clear HY HN H1 HB HF1 HF2
          go_wp2
          exact HF.out
end Go.Proofs.YtphhdmopfmelbaaGreat

/- help: how big a world and its plans are. No walk. -/
namespace Go.Proofs.YtphhdmopfmelbaaGreat
open Go.RowKit Go.Proofs.YtphhdmopfmelbaaGreatW.PrintWords
set_option linter.unusedVariables false
set_option linter.unusedSimpArgs false

/-- Too big, as far as j rows have been looked at. -/
def bg1 (d : WD) (j : Nat) : Bool := (decide (d.fields.length > 64) || decide (d.states.length > 64)) || (d.fields.take j).any (fun r => decide (r.length > 64))
/-- .. and k plans. -/
def bg2 (d : WD) (l : List PX) (k : Nat) : Bool := bg1 d d.fields.length || (l.take k).any (fun x => decide (x.p.V.length > 64))
theorem bg1_step (d : WD) (j : Nat) (hj : j < d.fields.length) : bg1 d (j + 1) = (bg1 d j || decide (d.fields[j].length > 64)) := by
  unfold bg1
  rw [← take_one'' d.fields j hj, List.any_append]
  simp [Bool.or_assoc]
theorem bg2_step (d : WD) (l : List PX) (k : Nat) (hk : k < l.length) : bg2 d l (k + 1) = (bg2 d l k || decide (l[k].p.V.length > 64)) := by
  unfold bg2
  rw [← take_one'' l k hk, List.any_append]
  simp [Bool.or_assoc]
theorem bg2_zero (d : WD) (l : List PX) : bg2 d l 0 = bg1 d d.fields.length := by unfold bg2; simp
theorem bg1_zero (d : WD) : bg1 d 0 = (decide (d.fields.length > 64) || decide (d.states.length > 64)) := by unfold bg1; simp
theorem bg2_all (d : WD) (l : List PX) : bg2 d l l.length = true ↔ BigH d (l.map PX.p) := by
  unfold bg2 bg1 BigH
  simp only [List.take_length, Bool.or_eq_true, decide_eq_true_eq, List.any_eq_true, List.mem_map]
  constructor
  · rintro (((h | h) | ⟨r, hr, h⟩) | ⟨x, hx, h⟩)
    · exact .inl h
    · exact .inr (.inl h)
    · exact .inr (.inr (.inl ⟨r, hr, h⟩))
    · exact .inr (.inr (.inr ⟨x.p, ⟨x, hx, rfl⟩, h⟩))
  · rintro (h | h | ⟨r, hr, h⟩ | ⟨p, ⟨x, hx, rfl⟩, h⟩)
    · exact .inl (.inl (.inl h))
    · exact .inl (.inl (.inr h))
    · exact .inl (.inr ⟨r, hr, h⟩)
    · exact .inr ⟨x, hx, h⟩
theorem bg_up {d : WD} {l : List PX} (h : bg1 d 0 = true) (k : Nat) : bg2 d l k = true := by
  unfold bg1 at h
  unfold bg2 bg1
  rw [List.take_zero, List.any_nil, Bool.or_false] at h
  rw [h]; rfl
theorem chk_big {d : WD} {l : List PX} (h : bg2 d l l.length = true) : chkH d (l.map PX.p) = 2 := by unfold chkH; rw [if_pos ((bg2_all d l).1 h)]
theorem chk_form {d : WD} {l : List PX} (h : bg2 d l l.length = false) (hn : ¬ d.Formed ∨ ¬ l.length = d.states.length) : chkH d (l.map PX.p) = 3 := by
  unfold chkH; rw [if_neg (fun e => by rw [(bg2_all d l).2 e] at h; cases h), if_pos (by simpa using hn)]
theorem chk_fits {d : WD} {l : List PX} (h : bg2 d l l.length = false) (h1 : d.Formed) (h2 : l.length = d.states.length) (hf : ∀ x ∈ l, x.p.Fits d) : chkH d (l.map PX.p) = 0 := by
  unfold chkH
  rw [if_neg (fun e => by rw [(bg2_all d l).2 e] at h; cases h), if_neg (by simpa using ⟨h1, h2⟩), if_pos]
  intro p hp
  obtain ⟨x, hx, rfl⟩ := List.mem_map.1 hp
  exact hf x hx
theorem chk_not {d : WD} {l : List PX} (h : bg2 d l l.length = false) (h1 : d.Formed) (h2 : l.length = d.states.length) {x : PX} (hx : x ∈ l) (hf : ¬ x.p.Fits d) : chkH d (l.map PX.p) = 3 := by
  unfold chkH
  rw [if_neg (fun e => by rw [(bg2_all d l).2 e] at h; cases h), if_neg (by simpa using ⟨h1, h2⟩), if_neg]
  exact fun hh => hf (hh x.p (List.mem_map_of_mem hx))
end Go.Proofs.YtphhdmopfmelbaaGreat

/- help: build. -/
namespace Go.Proofs.YtphhdmopfmelbaaGreat
open Go.RowKit Go.Proofs.YtphhdmopfmelbaaGreatW.PrintWords
set_option linter.unusedVariables false
set_option linter.unusedSimpArgs false

def P0 (_ : Nat) (s : ScxO) : Prop := s.state = 0 ∧ s.frozen = false
def F0 (d : WD) (i : Nat) : List (Option Nat) := List.replicate (d.fields.getD i []).length none
/-- What build holds between two steps, its lists being known. -/
def BAt (w : World) (bx m : Nat) (v : WV) (d : WD) (ps : List PlanD) (rs fs xs : List Nat) (v1 v2 v3 : Value) (F : Nat → List (Option Nat)) (I : Nat → Option Nat) (M : Nat → Bool) (P : Nat → ScxO → Prop) (J : Nat → List (Option Nat)) (wr : World) : Prop :=
  ∃ R X, BInv w bx m v d wr R X rs fs xs rs fs xs v1 v2 v3 F I M P ∧ PlansIn wr w.heap.size X rs xs ps J v2 v3
/-- After the records and j SCX-records. -/
def BI2 (w : World) (bx m : Nat) (v : WV) (d : WD) (ps : List PlanD) (j : Nat) (wr : World) : Prop :=
  ∃ rs fs xs v1 v2 v3, rs.length = d.fields.length ∧ xs.length = j ∧ BAt w bx m v d ps rs fs xs v1 v2 v3 (F0 d) (fun i => fs[i]?) (fun _ => false) P0 (PJ0 ps fs) wr
section
variable {w wr w1 : World} {bx m b : Nat} {v : WV} {d : WD} {R R' : Nat → Option RecO} {X X' : Nat → Option ScxO} {rs fs xs : List Nat} {v1 v2 v3 : Value} {F F' : Nat → List (Option Nat)} {I I' : Nat → Option Nat} {M M' : Nat → Bool} {P P' : Nat → ScxO → Prop} {J J' : Nat → List (Option Nat)} {ps : List PlanD}
theorem BI2.start (hl : rs.length = d.fields.length) (h : BInv w bx m v d wr R X rs fs [] rs fs [] v1 v2 (.slice none 0 0) (fun i => List.replicate (d.fields.getD i []).length none) (fun i => fs[i]?) (fun _ => false) (fun _ _ => True)) : BI2 w bx m v d ps 0 wr :=
  ⟨rs, fs, [], v1, v2, _, hl, rfl, R, X, ⟨h.made, h.stage.cong (fun _ _ => rfl) (fun _ _ => rfl) (fun _ _ => rfl) (fun i s hi => by simp at hi), h.box, h.below, h.hm⟩, PlansIn.nil _ _ _ _ _ _ _ _⟩
theorem BAt.drew (h : BAt w bx m v d ps rs fs xs v1 v2 v3 F I M P J wr) : BAt w bx m v d ps rs fs xs v1 v2 v3 F I M P J wr.drew := by
  obtain ⟨R, X, h1, h2⟩ := h
  exact ⟨R, X, h1.drew, h2.below (Below.refl _ _).drew⟩
theorem BAt.cong (h : BAt w bx m v d ps rs fs xs v1 v2 v3 F I M P J wr) (h1 : ∀ i, F i = F' i) (h2 : ∀ i, I i = I' i) (h3 : ∀ i, M i = M' i) (h4 : ∀ i s, i < xs.length → P i s → P' i s) (h5 : ∀ i, i < xs.length → J i = J' i) : BAt w bx m v d ps rs fs xs v1 v2 v3 F' I' M' P' J' wr := by
  obtain ⟨R, X, h, hp⟩ := h
  exact ⟨R, X, ⟨h.made, h.stage.cong (fun i _ => h1 i) (fun i _ => h2 i) (fun i _ => h3 i) h4, h.box, h.below, h.hm⟩, hp.congJ h5⟩
/-- Record i has turned. -/
theorem BAt.turnR (h : BInv w bx m v d wr R X rs fs xs rs fs xs v1 v2 v3 F I M P) (hp : PlansIn wr w.heap.size X rs xs ps J v2 v3) {i fb : Nat} (hi : rs[i]? = some b) (ho : R b = some ⟨[.int .i64 (i : Int)], fb, F i, I i, M i⟩) {fl : List (Option Nat)} {inf : Option Nat} {mk : Bool} {c : Nat} (hc : c = b ∨ c = fb) (hf : Fr wr w1 (fun k => k = c))
    (hrep : Repint w1 (upd R b ⟨[.int .i64 (i : Int)], fb, fl, inf, mk⟩) X) : BAt w bx m v d ps rs fs xs v1 v2 v3 (fun k => if k = i then fl else F k) (fun k => if k = i then inf else I k) (fun k => if k = i then mk else M k) P J w1 := by
  refine ⟨_, X, h.turn hi ho hc hf hrep, hp.types hf (fun k hk => ?_)⟩
  subst hk
  rcases hc with rfl | rfl
  · exact ⟨_, _, (h.stage.rep.recs _ _ ho).1, by decide, by decide, by decide⟩
  · exact ⟨_, _, h.stage.rep.fld _ _ ho, by decide, by decide, by decide⟩
/-- SCX-record i has turned. -/
theorem BAt.turnX (h : BInv w bx m v d wr R X rs fs xs rs fs xs v1 v2 v3 F I M P) (hp : PlansIn wr w.heap.size X rs xs ps J v2 v3) {i : Nat} (hi : xs[i]? = some b) {q q' : ScxO} (ho : X b = some q) (hf : Fr wr w1 (fun k => k = b)) (hrep : Repint w1 R (upd X b q'))
    (h1 : q'.sv = q.sv) (h2 : q'.si = q.si) (h3 : q'.sf = q.sf) (h4 : q'.at_ = q.at_) (h5 : q'.fld = q.fld) (h6 : q'.old = q.old) (h7 : q'.new = q.new) {P' : Nat → ScxO → Prop} (hP : P' i q') (hP' : ∀ k s, k ≠ i → P k s → P' k s) : BAt w bx m v d ps rs fs xs v1 v2 v3 F I M P' J w1 := by
  have hT : ∀ k, k = b → ∃ T ys, Blk wr k T ys ∧ T ≠ TPR ∧ T ≠ TPX ∧ T ≠ TPB ∧ T ≠ THM ∧ T ≠ TWD := fun k hk => by
    subst hk; exact ⟨_, _, h.stage.rep.scx _ _ ho, by decide, by decide, by decide, by decide, by decide⟩
  refine ⟨R, _, ⟨h.made.types hf (fun k hk => by obtain ⟨T, ys, hb, a1, a2, a3, a4, a5⟩ := hT k hk; exact ⟨T, ys, hb, a4, a1, a2⟩), h.stage.setScx hi hrep hP hP', hf.blk h.box (fun e => ?_), h.below.trans (hf.below h.below.size (fun k hk => ?_)), h.hm⟩,
    (hp.turnX ho h1 h2 h3 h4 h5 h6 h7).types hf (fun k hk => by obtain ⟨T, ys, hb, a1, a2, a3, a4, a5⟩ := hT k hk; exact ⟨T, ys, hb, a1, a2, a3⟩)⟩
  · obtain ⟨T, ys, hb, _, _, _, _, a5⟩ := hT _ e
    exact a5 (hb.inj h.box).1
  · subst hk; exact h.stage.lo _ (by simp [List.mem_of_getElem? hi])
/-- One of the infos of SCX-record i is written. -/
theorem BAt.setInf (h : BInv w bx m v d wr R X rs fs xs rs fs xs v1 v2 v3 F I M P) (hp : PlansIn wr w.heap.size X rs xs ps J v2 v3) {i : Nat} {s : ScxO} (hi : xs[i]? = some b) (hs : X b = some s) {p : PlanD} (hps : ps[i]? = some p) {q : Nat} {u : Option Nat} (hq : (J i)[q]? = some u) :
    ∃ (ad : Addr) (c : Nat), s.si = .slice (some ad) p.V.length c ∧ wr.cell? (ad.add q) = some (pv u) ∧ wr.frozen? (ad.add q) = false ∧ ∀ y, BAt w bx m v d ps rs fs xs v1 v2 v3 F I M P (fun k => if k = i then (J i).set q y else J k) (wr.setCell (ad.add q) (pv y)) := by
  obtain ⟨s', hs', hm⟩ := hp.at_ i b p hi hps
  rw [hs] at hs'; cases hs'
  obtain ⟨ad, c, e, _, hb, hc, hst⟩ := own_at hm.oi (j := q) (u := pv u) (by rw [List.getElem?_map, hq]; rfl)
  refine ⟨ad, c, e, hc, (hst wr hm.oi).1, fun y => ?_⟩
  obtain ⟨cc, hcc⟩ := owns_typed hm.oi _ hb
  have hf : Fr wr (wr.setCell (ad.add q) (pv y)) (fun k => k = (ad.add q).block) := fr_one rfl
  have hge := (World.ownsRow.lt hm.oi _ hb).1
  have hap := hp.ap i b s _ hi hs hb
  refine ⟨R, X, ⟨h.made.fr hf (fun e2 => ?_) (fun k hk e2 => ?_), h.stage.rep' (h.stage.rep.types hf (fun k hk => ⟨TPX, cc, hk ▸ hcc, by decide, by decide, by decide⟩)), hf.blk h.box (fun e2 => ?_), h.below.trans (hf.below h.below.size (fun k hk => hk ▸ hge)), h.hm⟩,
    hp.setInf hi hs hb ⟨cc, hcc⟩ (fun p' hp' => ?_)⟩
  · exact absurd ((e2 ▸ hcc : Blk wr m TPX cc).inj h.made.blk).1 (by decide)
  · subst e2
    rcases hk with hk | hk | hk
    · obtain ⟨c1, hc1⟩ := owns_typed h.made.o1 _ hk
      exact absurd (hc1.inj hcc).1 (by decide)
    · exact hap.1 hk
    · exact hap.2 hk
  · exact absurd ((e2 ▸ hcc : Blk wr bx TPX cc).inj h.box).1 (by decide)
  · rw [hps] at hp'; cases hp'
    have := (hst wr hm.oi).2 (pv y)
    rw [List.map_set]; exact this
end
/-- A world and its plans stand as records: what build leaves. -/
structure LiveHAt (d : WD) (ps : List PlanD) (B m : Nat) (w : World) (R : Nat → Option RecO) (X : Nat → Option ScxO) (rs fs xs : List Nat) (v1 v2 v3 : Value) : Prop where
  hr : rs.length = d.fields.length
  hx : xs.length = d.states.length
  made : MadeAt THM w B m rs fs xs v1 v2 v3
  stage : Stage w B R X rs fs xs (fun i => (d.fields.getD i []).map (rp rs)) (fun i => ip fs xs i (d.infos.getD i 0)) (fun i => d.marks.getD i false) (fun i s => s.state = d.states.getD i 0 ∧ s.frozen = d.frozen.getD i false)
  hm : B ≤ m
  pl : PlansIn w B X rs xs ps (PJf ps fs xs) v2 v3
def LiveH (d : WD) (ps : List PlanD) (B m : Nat) (w : World) : Prop := ∃ R X rs fs xs v1 v2 v3, LiveHAt d ps B m w R X rs fs xs v1 v2 v3
/-- States while the last loop goes. -/
def SS (d : WD) (j i : Nat) (s : ScxO) : Prop := s.state = (if i < j then d.states.getD i 0 else 0) ∧ s.frozen = (if i < j then d.frozen.getD i false else false)
theorem II_neg (fs xs : List Nat) (d : WD) (j : Nat) (n : Int) (hn : n < 0) (i : Nat) : II fs xs d j i = (if i = j then ip fs xs j n else II fs xs d j i) := by
  split
  · subst i; unfold II ip; rw [if_neg (Nat.lt_irrefl _), if_pos hn]; simp
  · rfl
theorem SS_up {d : WD} {j k : Nat} {s : ScxO} (e : ¬ k = j) (h : SS d j k s) : SS d (j + 1) k s := by
  unfold SS at *
  by_cases h1 : k < j
  · rw [if_pos h1, if_pos h1] at h; rw [if_pos (by omega), if_pos (by omega)]; exact h
  · rw [if_neg h1, if_neg h1] at h; rw [if_neg (by omega), if_neg (by omega)]; exact h
theorem BAt.live {w wr : World} {bx m : Nat} {v : WV} {d : WD} {ps : List PlanD} {rs fs xs : List Nat} {v1 v2 v3 : Value} (hr : rs.length = d.fields.length) (hx : xs.length = d.states.length)
    (h : BAt w bx m v d ps rs fs xs v1 v2 v3 (FF rs d d.fields.length 0) (II fs xs d d.fields.length) (MM d d.fields.length) (SS d d.states.length) (PJ ps fs xs ps.length 0) wr) (hps : ps.length = d.states.length) : Below w.heap.size w wr ∧ LiveH d ps w.heap.size m wr := by
  obtain ⟨R, X, h, hp⟩ := h
  refine ⟨h.below, R, X, rs, fs, xs, v1, v2, v3, hr, hx, h.made, h.stage.cong (fun i hi => ?_) (fun i hi => ?_) (fun i hi => ?_) (fun i s hi hs => ?_), h.hm, hp.congJ (fun i hi => ?_)⟩
  · unfold FF; rw [if_pos (by omega)]
  · unfold II; rw [if_pos (by omega)]
  · unfold MM; rw [if_pos (by omega)]
  · unfold SS at hs; rwa [if_pos (by omega), if_pos (by omega)] at hs
  · unfold PJ; rw [if_pos (by omega)]

theorem FF_none (rs : List Nat) (d : WD) (j q : Nat) (hq : q < (d.fields.getD j []).length) : (FF rs d j q j).getD q none = none := by
  unfold FF
  simp only [Nat.lt_irrefl, if_false, if_true]
  have hle : (((d.fields.getD j []).take q).map (rp rs)).length = q := by rw [List.length_map, List.length_take]; omega
  rw [List.getD_eq_getElem?_getD, List.getElem?_append_right (by omega), hle, Nat.sub_self]
  rw [show (d.fields.getD j []).length - q = ((d.fields.getD j []).length - (q + 1)) + 1 by omega, List.replicate_succ]
  rfl
set_option maxHeartbeats 20000000 in
set_option maxRecDepth 100000 in
theorem help_build (w : World) (v : WV) (d : WD) (A : Option Addr) (c : Nat) (l : List PX) (hv : v.Reads w d) (hp : PlansAt w A l) (hd : d.Formed) (hb : ¬ BigH d (l.map PX.p)) (hll : l.length = d.states.length) (hf : ∀ x ∈ l, x.p.Fits d) :
    Calls Tryz.prog 50 #[v.val d, .slice A l.length c] w fun e w' => ∃ m, e = .returned (.pointer (some ⟨m, 0, none⟩)) ∧ Below w.heap.size w w' ∧ LiveH d (l.map PX.p) w.heap.size m w' := by
  refine calls_hide fun Q HQ => ?_
  have HQ' := Lib.hid HQ
  have HV := Lib.hid hv
  have HPL := Lib.hid hp
  have l0 : d.fields.length ≤ 64 := Nat.le_of_not_lt fun h => hb (.inl h)
  have HL0 := Lib.hid l0
  have HL1 := Lib.hid (show ∀ r ∈ d.fields, r.length ≤ 64 from fun r hr => Nat.le_of_not_lt fun h => hb (.inr (.inr (.inl ⟨r, hr, h⟩))))
  have HL2 := Lib.hid (show ∀ x ∈ l, x.p.V.length ≤ 64 from fun x hx => Nat.le_of_not_lt fun h => hb (.inr (.inr (.inr ⟨x.p, List.mem_map_of_mem hx, h⟩))))
  have l3 : d.states.length ≤ 64 := Nat.le_of_not_lt fun h => hb (.inr (.inl h))
  have HFb := Lib.hid hd.hF
  have HIb := Lib.hid hd.hI
  have HSb := Lib.hid hd.hS
  have E1 := Lib.hid hd.e1
  have E2 := Lib.hid hd.e2
  have E4 := Lib.hid hd.e4
  have HFT := Lib.hid hf
  have HLL := Lib.hid hll
  have l4 : l.length ≤ 64 := by omega
  have hst := Lib.hid (BI1.start w v d)
  have hmk := fun n (hn : n ≤ 64) w => run_make_nils (P := Tryz.prog) (t := 117) Tryz.underlying117 pinfo_rec rfl n (by omega) (by omega) w
  have HMK := Lib.hid hmk
  clear HQ hv hd hb hf hll hmk hp
  go_enter Tryz.func50, Tryz.ntmps50
  go_wp2
  go_loopw [28] (fun k wr => ∃ j : Nat, j ≤ d.fields.length ∧ k = .int .i64 j ∧ BI1 w w.heap.size (w.heap.size + 1) v d j wr) (fun k _ => d.fields.length - (intOf k).toNat)
  case atStart => exact ⟨0, Nat.zero_le _, rfl, hst.out⟩
  case round =>
    clear hst
    obtain ⟨j, hj, rfl, R, X, rs, fs, v1, v2, hrl, hM⟩ := hrel
    have HM := Lib.hid hM
    clear hM
    subst hrl
    by_cases hlt : rs.length < d.fields.length
    · obtain ⟨ad, hA, A', c', hc0, _, _⟩ := row_at HV.out.h0 hlt
      have hc : wr.cell? (ad.add rs.length) = some (.slice A' d.fields[rs.length].length c') := pw_cell_below HM.out.below hc0
      have hn64 := HL1.out d.fields[rs.length] (List.getElem_mem hlt)
      have HD := Lib.hid (show d.fields.getD rs.length [] = d.fields[rs.length] by simp [List.getD_eq_getElem?_getD, List.getElem?_eq_getElem hlt])
      generalize d.fields[rs.length] = row at *
      have hmk := HMK.out row.length hn64 wr
      have hps : ((List.replicate row.length (none : Option Nat)).map pv) = List.replicate row.length (.pointer none) := by simp [hd]
      have HN := Lib.hid (new_int (rs.length : Int) (some ⟨wr.heap.size, 0, none⟩) row.length (List.replicate row.length none) R X (wr.alloc (.cells (nils row.length) 143)) (HM.out.stage.rep.below ((Below.refl wr.heap.size wr).alloc (Nat.le_refl _) _))
        (by rw [hps]; have := Row1.of_blk (rest := []) (by simpa using nils_blk wr 143 row.length); simpa using this) (fun p hp => by rw [List.eq_of_mem_replicate hp]; exact Ok.none R) (by simp; omega))
      have hlr : (List.replicate row.length (none : Option Nat)).length = row.length := by simp
      rw [hlr] at HN
      clear hc0 hps hlr
      have hbx := HM.out.box
      obtain ⟨A0, c0, A1, c1, A2, c2, A3, c3, A4, c4⟩ := v
      simp only at hA
      subst hA
      go_wp2_with fail
      refine HN.out.mono ?_
      rintro e w1 ⟨b, fb, xb, rfl, hb, hfb, hxb, hbel, hrep⟩
      simp only [World.size_alloc] at hb hfb hxb
      have hbel1 : Below wr.heap.size wr w1 := ((Below.refl wr.heap.size wr).alloc (Nat.le_refl _) _).trans (hbel.mono (by simp))
      have hfl : fs.length = rs.length := HM.out.stage.len
      have HS := ((HM.out.stage.cong (F' := fun i => List.replicate (d.fields.getD i []).length none) (I' := fun i => (fs ++ [xb])[i]?) (M' := fun _ => false) (P' := fun _ _ => True) (fun _ _ => rfl) (fun i hi => by rw [List.getElem?_append_left (by omega)]) (fun _ _ => rfl) (fun _ _ _ _ => trivial)).addRec hbel1 (by omega) (by omega) (by omega) HM.out.below.size hrep (by rw [HD.out]) (by simp [hfl]) rfl)
      have HM1 := Lib.hid (HM.out.grow hbel1 HS)
      have HFL := Lib.hid hfl
      clear hb hfb hxb hbel hrep HN hmk hc hbel1 HS HD hbx HM hfl
      have HI := Lib.hid (fun w' (h : Repint w' _ (upd X xb firstO)) => calls_swap (infon_int _ _ w' h b _ (upd_self R b ⟨[.int .i64 (rs.length : Int)], fb, List.replicate row.length none, some xb, false⟩)))
      have hk0 := HM1.out.at0

      go_wp2_with (at_builtin; refine print_append_cells w.heap.size rfl _ _ 117 143 (.pointer none) 1 8 rfl Tryz.underlying117 pinfo_rec rfl (by decide) (by decide) v1 rs.length _ [pv (some b)] rfl rfl rfl (by simp [Value.oneCell']) HM1.out.made.o1 HM1.out.below HM1.out.below.size (by omega) ?_)
      intro a1 w2 hown1 hb1 hg1 hat1
      have HM2 := Lib.hid (HM1.out.push1 hg1 hown1)
      obtain ⟨hc1, hf1, A1', c1', hv1⟩ := after_append HM1.out.made.blk HM1.out.made.o1 (by decide) hg1 (j := 0) rfl _ hown1
      clear hown1 hb1 hg1 hat1 hk0 HM1
      subst hv1
      go_wp2_with fail
      generalize (w2.setCell ⟨w.heap.size + 1, 0, none⟩ (.slice A1' (rs.length + 1) c1')) = wq at *
      clear hc1 hf1
      have HM3 := Lib.hid HM2.out.drew
      have hk1 := HM2.out.at1
      clear HM2
      have hk2 : (wq.alloc (Obj.cells #[pv (some xb)] 116)).cell? ⟨w.heap.size + 1, 1, none⟩ = some v2 := cell_alloc_drew _ hk1
      go_region_law (first
        | (go_simp; go_at_call 70; refine (HI.out _ HM3.out.stage.rep).mono ?_; rintro e w' ⟨rfl, rfl⟩)
        | (refine step_append_cells (W := wq.drew) w.heap.size (by rfl) _ _ 118 116 (.pointer none) 1 8 rfl Tryz.underlying118 pinfo_scx rfl (by decide) (by decide) v2 fs.length _ [pv (some xb)] rfl rfl rfl (by simp [Value.oneCell']) HM3.out.made.o2 HM3.out.below HM3.out.below.size (by have := HFL.out; omega) ?_
           intro a2 w3 hown2 hb2 hg2 hat2
           have HM4 := Lib.hid (HM3.out.push2 hg2 hown2 hat2)
           obtain ⟨hc2, hf2, A2', c2', hv2⟩ := after_append HM3.out.made.blk HM3.out.made.o2 (by decide) hg2 (j := 1) rfl _ hown2
           clear hown2 hb2 hg2 hat2
           subst hv2))
      all_goals
        go_wp2
        go_roundw
        case rel => exact ⟨rs.length + 1, by omega, by go_num, _, _, rs ++ [b], fs ++ [xb], _, _, by simp, HM4.out⟩
        case measure => simp [intOf]; omega
    · have hj0 : rs.length = d.fields.length := by omega
      have hs2 := Lib.hid (BI2.start (ps := l.map PX.p) hj0 HM.out)
      clear HM hj hj0
      go_wp2
      go_loopw [62] (fun k wr => ∃ j : Nat, j ≤ l.length ∧ k = .int .i64 j ∧ BI2 w w.heap.size (w.heap.size + 1) v d (l.map PX.p) j wr) (fun k _ => l.length - (intOf k).toNat)
      case atStart => exact ⟨0, Nat.zero_le _, rfl, hs2.out⟩
      case round =>
        clear hs2
        obtain ⟨j, hj, rfl, rs, fs, xs, v1, v2, v3, hrl, hxl, R, X, hM, hPI⟩ := hrel
        have HM := Lib.hid hM
        have HPI := Lib.hid hPI
        have HRL := Lib.hid hrl
        clear hM hPI hrl
        subst hxl
        by_cases hlt : xs.length < l.length
        · obtain ⟨pb, po, hA, p0, p1, p2, p3, p4, p5, p6⟩ := HPL.out.at_ hlt
          have q0 := pw_cell_below HM.out.below p0
          have q1 := pw_cell_below HM.out.below p1
          have q2 := pw_cell_below HM.out.below p2
          have q3 := pw_cell_below HM.out.below p3
          have q4 := pw_cell_below HM.out.below p4
          have q5 := pw_cell_below HM.out.below p5
          have q6 := pw_cell_below HM.out.below p6
          have HXR := Lib.hid (HPL.out.reads _ (List.getElem_mem hlt))
          have HXF := Lib.hid (HFT.out _ (List.getElem_mem hlt))
          have HXL := Lib.hid (HL2.out _ (List.getElem_mem hlt))
          have HPS := Lib.hid (show (l.map PX.p)[xs.length]? = some l[xs.length].p by simp [List.getElem?_eq_getElem hlt])
          clear p0 p1 p2 p3 p4 p5 p6
          generalize l[xs.length] = x at *
          obtain ⟨p, B0, k0, B1, k1, B2, k2⟩ := x
          simp only at q0 q1 q2 q3 q4 q5 q6
          replace HXF := Lib.hid (show p.Fits d from HXF.out)
          replace HXL := Lib.hid (show p.V.length ≤ 64 from HXL.out)
          replace HPS := Lib.hid (show (l.map PX.p)[xs.length]? = some p from HPS.out)
          subst hA
          go_wp2_with fail
          have hbq : Below wr.heap.size wr (wr.alloc (.cells #[.slice B0 p.V.length k0, .slice B1 p.infos.length k1, .slice B2 p.fin.length k2, .int .i64 p.at_, .int .i64 p.fld, .int .i64 p.old, .int .i64 p.new] 123)) := (Below.refl _ _).alloc (Nat.le_refl _) _
          have HMq := Lib.hid (HM.out.grow hbq (HM.out.stage.below hbq))
          have HPq := Lib.hid (HPI.out.below hbq)
          have hbk := Blk.new wr 123 [.slice B0 p.V.length k0, .slice B1 p.infos.length k1, .slice B2 p.fin.length k2, .int .i64 p.at_, .int .i64 p.fld, .int .i64 p.old, .int .i64 p.new]
          have g0 := hbk.cell 0
          have g1 := hbk.cell 1
          have g2 := hbk.cell 2
          have g3 := hbk.cell 3
          have g4 := hbk.cell 4
          have g5 := hbk.cell 5
          have g6 := hbk.cell 6
          simp only [List.getElem?_cons_zero, List.getElem?_cons_succ] at g0 g1 g2 g3 g4 g5 g6
          clear hbk hbq q0 q1 q2 q3 q4 q5 q6
          generalize wr.alloc (.cells #[.slice B0 p.V.length k0, .slice B1 p.infos.length k1, .slice B2 p.fin.length k2, .int .i64 p.at_, .int .i64 p.fld, .int .i64 p.old, .int .i64 p.new] 123) = wq at *
          have HMd := Lib.hid HMq.out.drew
          have HPd := Lib.hid (HPq.out.below (w' := wq.drew) (Below.refl _ _).drew)
          have hk2 := HMq.out.at2
          have hfs : fs.length = rs.length := HMq.out.stage.len
          have HPC := Lib.hid (help_plan wq.drew w.heap.size (w.heap.size + 1) rs fs xs _ _ _ HMd.out.made hfs R X HMd.out.stage.rep
            (fun b hb => by obtain ⟨i, hi⟩ := List.getElem?_of_mem hb; obtain ⟨fb, h1, _⟩ := HMd.out.stage.r i b hi; simp [h1]) (fun b hb => HMd.out.stage.f b hb)
            B0 k0 p.V B2 p.fin.length k2 (p.fin.map Value.bool) (.slice B1 p.infos.length k1) p.at_ p.fld p.old p.new
            (row1_of_C (HXR.out.below HMd.out.below).h0) (fun n hn => by rw [HRL.out]; exact HXF.out.hV n hn) (by have := HXL.out; omega)
            (fun e => by
              obtain ⟨ad, e2, _⟩ := HXR.out.h2.2.2 (by show 0 < p.fin.length; have := HXF.out.v2; have := HXF.out.v0; omega)
              simp only at e2; rw [e] at e2; cases e2)
            (row1_of_C (HXR.out.below HMd.out.below).h2) (fun u hu => by obtain ⟨x, _, rfl⟩ := List.mem_map.1 hu; rfl) (by have := HXL.out; have := HXF.out.v2; omega)
            (by have := HXF.out.o; unfold inH at this; rw [HRL.out]; exact this) (by have := HXF.out.n; unfold inH at this; rw [HRL.out]; exact this) rfl)
          clear hfs HMq HPq
          go_region_law (first
            | ((try go_simp); (try go_at_call 78); refine HPC.out.mono ?_; rintro e w5 ⟨b, s1, s2, s3, rfl, hb, hbel, hrep, ho1, ho2, ho3⟩
               have HM5 := Lib.hid (HMd.out.grow hbel (HMd.out.stage.addScx hbel hb HMd.out.below.size hrep (P := P0) ⟨rfl, rfl⟩))
               have HP5 := Lib.hid (HPd.out.push hbel (fun c s hs => (HMd.out.stage.rep.scx c s hs).lt) hb (fun hbm => by
                   obtain ⟨i, hi⟩ := List.getElem?_of_mem hbm
                   obtain ⟨s, hs, _⟩ := HMd.out.stage.x i b hi
                   have := (HMd.out.stage.rep.scx b s hs).lt
                   omega) HPS.out (s := ⟨s1, s2, s3, p.at_, p.fld, rp rs p.old, rp rs p.new, 0, false⟩)
                 ⟨own_weaken ho1 HMd.out.below.size, by
                   have h := own_weaken ho2 HMd.out.below.size
                   unfold PJ0; rw [HPS.out]; simp only [List.map_map]; exact h, by
                   have h := own_weaken ho3 HMd.out.below.size
                   have h2 := HXF.out.v2
                   rwa [h2] at h, rfl, rfl, rfl, rfl⟩
                 (fun k hk => (World.ownsRow.lt ho2 k hk).1)
                 (fun i c t k hi ht hk => by
                   obtain ⟨t', ht', hm⟩ := HPd.out.at_ i c _ hi (List.getElem?_eq_getElem (by have := (List.getElem?_eq_some_iff.1 hi).1; simp only [List.length_map]; omega))
                   rw [ht] at ht'; cases ht'
                   exact (World.ownsRow.lt hm.oi k hk).2)
                 (fun k hk => (World.ownsRow.lt HMd.out.made.o2 k hk).2) (fun k hk => (World.ownsRow.lt HMd.out.made.o3 k hk).2))
               have hk5 := HM5.out.at2
               have hk6 : (w5.alloc (Obj.cells #[pv (some b)] 116)).cell? ⟨w.heap.size + 1, 2, none⟩ = some v3 := cell_alloc_drew _ hk5
               clear hb hbel hrep ho1 ho2 ho3)
            | (refine step_append_cells (W := w5) w.heap.size (by rfl) _ _ 118 116 (.pointer none) 1 8 rfl Tryz.underlying118 pinfo_scx rfl (by decide) (by decide) v3 xs.length _ [pv (some b)] rfl rfl rfl (by simp [Value.oneCell']) HM5.out.made.o3 HM5.out.below HM5.out.below.size (by omega) ?_
               intro a2 w6 hown2 hb2 hg2 hat2
               have HM6 := Lib.hid (HM5.out.push3 hg2 hown2 hat2)
               have HP6 := Lib.hid (((HP5.out.grow3 (by simp; omega) hg2 HM5.out.made.o3 hat2).types (w' := w6.setCell ⟨w.heap.size + 1, 2, none⟩ a2) (S := fun k => k = w.heap.size + 1) (fr_one rfl) (fun k hk => ⟨THM, _, hk ▸ (Fr.of_grown hg2).blk HM5.out.made.blk (fun e => by
                   obtain ⟨c, hc⟩ := owns_typed HM5.out.made.o3 _ e.symm
                   exact absurd (HM5.out.made.blk.inj hc).1 (by decide)), by decide, by decide, by decide⟩)))
               obtain ⟨hc2, hf2, A2', c2', hv2⟩ := after_append HM5.out.made.blk HM5.out.made.o3 (by decide) hg2 (j := 2) rfl _ hown2
               clear hown2 hb2 hg2 hat2
               subst hv2))
          all_goals
            go_wp2
            go_roundw
            case rel => exact ⟨xs.length + 1, by omega, by go_num, rs, fs, xs ++ [b], _, _, _, HRL.out, by simp, _, _, HM6.out, HP6.out⟩
            case measure => simp [intOf]; omega
        · have hx0 : xs.length = l.length := by omega
          have HX0 := Lib.hid hx0
          have hb0 : wr.cell? ⟨w.heap.size, 0, none⟩ = some (.slice v.A0 d.fields.length v.c0) := HM.out.box.cell 0
          have hs3 := Lib.hid (show BAt w w.heap.size (w.heap.size + 1) v d (l.map PX.p) rs fs xs v1 v2 v3 (FF rs d 0 0) (fun i => fs[i]?) (fun _ => false) P0 (PJ0 (l.map PX.p) fs) wr from BAt.cong (F := F0 d) ⟨R, X, HM.out, HPI.out⟩ (fun i => FF_zero rs d i) (fun _ => rfl) (fun _ => rfl) (fun _ _ _ h => h) (fun _ _ => rfl))
          clear HM HPI hj hx0
          go_wp2
          clear hb0
          go_loopw [82] (fun k wr => ∃ j : Nat, j ≤ d.fields.length ∧ k = .int .i64 j ∧ BAt w w.heap.size (w.heap.size + 1) v d (l.map PX.p) rs fs xs v1 v2 v3 (FF rs d j 0) (fun i => fs[i]?) (fun _ => false) P0 (PJ0 (l.map PX.p) fs) wr) (fun k _ => d.fields.length - (intOf k).toNat)
          case atStart => exact ⟨0, Nat.zero_le _, rfl, hs3.out⟩
          case round =>
            clear hs3
            obtain ⟨j, hj, rfl, R, X, hM, hPI⟩ := hrel
            have HM := Lib.hid hM
            have HPI := Lib.hid hPI
            clear hM hPI
            by_cases hlt3 : j < d.fields.length
            · obtain ⟨ad, hA, A', c', hc0, _, hrow⟩ := row_at HV.out.h0 hlt3
              have hc : _ = some (Value.slice A' d.fields[j].length c') := pw_cell_below HM.out.below hc0
              have hn64 := HL1.out d.fields[j] (List.getElem_mem hlt3)
              have HFr := Lib.hid (HFb.out d.fields[j] (List.getElem_mem hlt3))
              have HD := Lib.hid (show d.fields.getD j [] = d.fields[j] by simp [List.getD_eq_getElem?_getD, List.getElem?_eq_getElem hlt3])
              obtain ⟨b, hbj⟩ : ∃ b, rs[j]? = some b := ⟨rs[j]'(by have := HRL.out; omega), List.getElem?_eq_getElem (by have := HRL.out; omega)⟩
              have HBJ := Lib.hid hbj
              generalize d.fields[j] = row at *
              have HRow := Lib.hid hrow
              have hs4 := Lib.hid (show BAt w w.heap.size (w.heap.size + 1) v d (l.map PX.p) rs fs xs v1 v2 v3 (FF rs d j 0) (fun i => fs[i]?) (fun _ => false) P0 (PJ0 (l.map PX.p) fs) wr from ⟨R, X, HM.out, HPI.out⟩)
              obtain ⟨A0, c0, A1, c1, A2, c2, A3, c3, A4, c4⟩ := v
              simp only at hA
              subst hA
              clear hrow hc0 hbj HM HPI
              go_wp2
              clear hc
              go_loopw [89] (fun k wr => ∃ q : Nat, q ≤ row.length ∧ k = .int .i64 q ∧ BAt w w.heap.size (w.heap.size + 1) ⟨some ad, c0, A1, c1, A2, c2, A3, c3, A4, c4⟩ d (l.map PX.p) rs fs xs v1 v2 v3 (FF rs d j q) (fun i => fs[i]?) (fun _ => false) P0 (PJ0 (l.map PX.p) fs) wr) (fun k _ => row.length - (intOf k).toNat)
              case atStart => exact ⟨0, Nat.zero_le _, rfl, hs4.out⟩
              case round =>
                clear hs4
                obtain ⟨q, hq, rfl, R, X, hM, hPI⟩ := hrel
                have HM := Lib.hid hM
                have HPI := Lib.hid hPI
                clear hM hPI
                by_cases hlt4 : q < row.length
                · obtain ⟨ad2, hA2, hc2⟩ := int_at HRow.out hlt4
                  try simp only at hA2
                  subst hA2
                  have hc3 := pw_cell_below HM.out.below hc2
                  obtain ⟨b0, k0, hv, hcell⟩ := owns_at HM.out.made.o1 (j := j) (by have := HRL.out; omega)
                  rw [HBJ.out] at hcell
                  have hcell1 : _ = some (Value.pointer (some ⟨b, 0, none⟩)) := hcell
                  have hm0 := HM.out.at0
                  rw [hv] at hm0
                  have hjr : j < rs.length := by have := HRL.out; omega
                  obtain ⟨fb, hfb, hfbl⟩ := HM.out.stage.r j b HBJ.out
                  have hfn := HFr.out row[q] (List.getElem_mem hlt4)
                  have HMd := Lib.hid HM.out.drew
                  have HPd := Lib.hid (HPI.out.below (w' := wr.drew) (Below.refl _ _).drew)
                  have HRC := Lib.hid (calls_swap (help_rec wr.drew w.heap.size (w.heap.size + 1) rs fs xs _ _ _ HMd.out.made row[q] hfn.1 (by have := hfn.2; have := HRL.out; omega)))
                  have hql : q < (d.fields.getD j []).length := by rw [HD.out]; exact hlt4
                  have hfl : q < (FF rs d j q j).length := by rw [FF_len _ _ _ _ (by omega)]; exact hql
                  have HSW := Lib.hid (swing_nil R X wr.drew HMd.out.stage.rep b _ hfb q hfl (FF_none rs d j q hql) (rp rs row[q]) (HMd.out.stage.okR row[q]))
                  have HFB := Lib.hid hfb
                  have HST := Lib.hid (FF_step rs d j q · hql)
                  have HRQ := Lib.hid (show rp rs ((d.fields.getD j [])[q]) = rp rs row[q] by simp only [HD.out])
                  generalize row[q] = n at *
                  clear hc2 hfb hfl hv hcell HM HPI
                  go_wp2_with fail
                  refine wp_region_still_tail 11 (by kernel_rfl) (by kernel_rfl) ?_
                  simp only [List.take_succ_cons, List.take_zero, List.drop_succ_cons, List.drop_zero]
                  iterate 10 still_step
                  still_call (HRC.out)
                  refine wpStill_nil ?_
                  change wpList _ _ _ _ _ wr.drew
                  clear hc3 hcell1 hm0 HRC
                  generalize wr.drew = wz at *
                  go_wp2_with fail
                  refine HSW.out.mono ?_
                  rintro e w1 ⟨rfl, hf1, hr1⟩
                  have HM2 := Lib.hid ((BAt.turnR HMd.out HPd.out HBJ.out HFB.out (.inr rfl) hf1 hr1).cong (F' := FF rs d j (q + 1)) (I' := (fun i => fs[i]?)) (M' := (fun _ => false)) (fun i => by rw [← HRQ.out]; exact HST.out i) (fun i => by split <;> simp_all) (fun i => by split <;> simp_all) (fun _ _ _ h => h) (fun _ _ => rfl))
                  clear hf1 hr1 HMd HPd HFB HST HRQ HSW
                  go_wp2
                  go_roundw
                  case rel => exact ⟨q + 1, by omega, by go_num, HM2.out⟩
                  case measure => simp [intOf]; omega
                · have hq0 : q = row.length := by omega
                  subst hq0
                  have HM2 := Lib.hid (BAt.cong (F' := FF rs d (j + 1) 0) ⟨R, X, HM.out, HPI.out⟩ (fun i => by rw [← FF_next, HD.out]) (fun _ => rfl) (fun _ => rfl) (fun _ _ _ h => h) (fun _ _ => rfl))
                  clear hlt4 hq HM HPI
                  go_wp2
                  go_roundw
                  case rel => exact ⟨j + 1, by omega, by go_num, HM2.out⟩
                  case measure => simp [intOf]; omega
            · have hj3 : j = d.fields.length := by omega
              subst hj3
              clear hlt3 hj
              have hs5 := Lib.hid (show BAt w w.heap.size (w.heap.size + 1) v d (l.map PX.p) rs fs xs v1 v2 v3 (FF rs d d.fields.length 0) (fun i => fs[i]?) (fun _ => false) P0 (PJ (l.map PX.p) fs xs 0 0) wr from BAt.cong ⟨R, X, HM.out, HPI.out⟩ (fun _ => rfl) (fun _ => rfl) (fun _ => rfl) (fun _ _ _ h => h) (fun i _ => PJ_zero (l.map PX.p) fs xs i))
              clear HM HPI
              go_wp2
              go_loopw [110] (fun k wr => ∃ j : Nat, j ≤ l.length ∧ k = .int .i64 j ∧ BAt w w.heap.size (w.heap.size + 1) v d (l.map PX.p) rs fs xs v1 v2 v3 (FF rs d d.fields.length 0) (fun i => fs[i]?) (fun _ => false) P0 (PJ (l.map PX.p) fs xs j 0) wr) (fun k _ => l.length - (intOf k).toNat)
              case atStart => exact ⟨0, Nat.zero_le _, rfl, hs5.out⟩
              case round =>
                clear hs5
                obtain ⟨j, hj, rfl, R, X, hM, hPI⟩ := hrel
                have HM := Lib.hid hM
                have HPI := Lib.hid hPI
                clear hM hPI
                by_cases hlt5 : j < l.length
                · obtain ⟨pb, po, hA, p0, p1, p2, p3, p4, p5, p6⟩ := HPL.out.at_ hlt5
                  have q0 := pw_cell_below HM.out.below p0
                  have q1 := pw_cell_below HM.out.below p1
                  have q2 := pw_cell_below HM.out.below p2
                  have q3 := pw_cell_below HM.out.below p3
                  have q4 := pw_cell_below HM.out.below p4
                  have q5 := pw_cell_below HM.out.below p5
                  have q6 := pw_cell_below HM.out.below p6
                  have HXR := Lib.hid (HPL.out.reads _ (List.getElem_mem hlt5))
                  have HXF := Lib.hid (HFT.out _ (List.getElem_mem hlt5))
                  have HXL := Lib.hid (HL2.out _ (List.getElem_mem hlt5))
                  have HPS := Lib.hid (show (l.map PX.p)[j]? = some l[j].p by simp [List.getElem?_eq_getElem hlt5])
                  clear p0 p1 p2 p3 p4 p5 p6
                  generalize l[j] = x at *
                  obtain ⟨p, B0, k0, B1, k1, B2, k2⟩ := x
                  simp only at q0 q1 q2 q3 q4 q5 q6
                  replace HXF := Lib.hid (show p.Fits d from HXF.out)
                  replace HXL := Lib.hid (show p.V.length ≤ 64 from HXL.out)
                  replace HPS := Lib.hid (show (l.map PX.p)[j]? = some p from HPS.out)
                  obtain ⟨b, hbj⟩ : ∃ b, xs[j]? = some b := ⟨xs[j]'(by have := HX0.out; omega), List.getElem?_eq_getElem (by have := HX0.out; omega)⟩
                  have HBJ := Lib.hid hbj
                  have hi64 : p.infos.length ≤ 64 := by have := HXL.out; have := HXF.out.v1; omega
                  have hbq : Below wr.heap.size wr (wr.alloc (.cells #[.slice B0 p.V.length k0, .slice B1 p.infos.length k1, .slice B2 p.fin.length k2, .int .i64 p.at_, .int .i64 p.fld, .int .i64 p.old, .int .i64 p.new] 123)) := (Below.refl _ _).alloc (Nat.le_refl _) _
                  have hs6 := Lib.hid (show BAt w w.heap.size (w.heap.size + 1) v d (l.map PX.p) rs fs xs v1 v2 v3 (FF rs d d.fields.length 0) (fun i => fs[i]?) (fun _ => false) P0 (PJ (l.map PX.p) fs xs j 0) _ from ⟨R, X, HM.out.grow hbq (HM.out.stage.below hbq), HPI.out.below hbq⟩)
                  subst hA
                  clear HM HPI hbj hbq
                  go_wp2
                  clear q0 q1 q2 q3 q4 q5 q6
                  go_loopw [118] (fun k wr => ∃ q : Nat, q ≤ p.infos.length ∧ k = .int .i64 q ∧ BAt w w.heap.size (w.heap.size + 1) v d (l.map PX.p) rs fs xs v1 v2 v3 (FF rs d d.fields.length 0) (fun i => fs[i]?) (fun _ => false) P0 (PJ (l.map PX.p) fs xs j q) wr) (fun k _ => p.infos.length - (intOf k).toNat)
                  case atStart => exact ⟨0, Nat.zero_le _, rfl, hs6.out⟩
                  case round =>
                    clear hs6
                    obtain ⟨q, hq, rfl, R, X, hM, hPI⟩ := hrel
                    have HM := Lib.hid hM
                    have HPI := Lib.hid hPI
                    clear hM hPI
                    by_cases hlt6 : q < p.infos.length
                    · obtain ⟨ad2, hA2, hc2⟩ := int_at HXR.out.h1 hlt6
                      try simp only at hA2 hc2
                      subst hA2
                      have hc3 := pw_cell_below HM.out.below hc2
                      have hqv : q < p.V.length := by have := HXF.out.v1; omega
                      have hin := HXF.out.hI _ (List.getElem_mem hlt6)
                      obtain ⟨hpf, hp0⟩ := PJ_at (fs := fs) (xs := xs) HPS.out HXF.out.v1 hqv
                      have HPF := Lib.hid hpf
                      have HP0 := Lib.hid hp0
                      generalize p.infos[q] = n at *
                      clear hc2 hpf hp0
                      by_cases hn : 0 ≤ n
                      · have hjx : j < xs.length := by have := HX0.out; omega
                        have hn1 : n < xs.length := by have := hin.2; have := HLL.out; have := HX0.out; omega
                        obtain ⟨x3, k3, hv, hcell⟩ := owns_at HM.out.made.o3 (j := j) (by omega)
                        obtain ⟨x3', k3', hv', hcelln⟩ := owns_at HM.out.made.o3 (j := n.toNat) (by omega)
                        obtain ⟨hx33, hk33⟩ : x3' = x3 ∧ k3' = k3 := by rw [hv] at hv'; simp at hv'; exact ⟨hv'.1.symm, hv'.2.symm⟩
                        subst hx33 hk33
                        rw [HBJ.out] at hcell
                        have hcell1 : _ = some (Value.pointer (some ⟨b, 0, none⟩)) := hcell
                        have hm2 := HM.out.at2
                        rw [hv] at hm2
                        obtain ⟨s, hs, hsP⟩ := HM.out.stage.x j b HBJ.out
                        have HMd := Lib.hid HM.out.drew
                        have HPd := Lib.hid (HPI.out.below (w' := wr.drew) (Below.refl _ _).drew)
                        obtain ⟨u, hu⟩ : ∃ u, (PJ (l.map PX.p) fs xs j q j)[q]? = some u := by
                          obtain ⟨e1, e2⟩ := PJ_len (fs := fs) (xs := xs) HPS.out HXF.out.v1
                          have : q < (PJ (l.map PX.p) fs xs j q j).length := by
                            unfold PJ; rw [if_neg (Nat.lt_irrefl _), if_pos rfl]; simp; omega
                          exact ⟨_, List.getElem?_eq_getElem this⟩
                        obtain ⟨ad, ci, esi, hci, hfi, hset⟩ := BAt.setInf HMd.out HPd.out HBJ.out hs HPS.out hu
                        have HSET := Lib.hid (hset xs[n.toNat]?)
                        have hsi : wr.cell? ⟨b, 1, none⟩ = some (.slice (some ad) p.V.length ci) := by rw [(HM.out.stage.rep.scx b s hs).cell, ← esi]; rfl
                        have hci0 : wr.cell? (ad.add q) = some (pv u) := hci
                        have HST := Lib.hid (PJ_step (y := xs[n.toNat]?) (by rw [HPF.out]; unfold ip; rw [if_neg (by omega)]) (by have := (PJ_len (fs := fs) (xs := xs) HPS.out HXF.out.v1).2; rw [this]; exact hqv))
                        clear hset hv hv' hcell hu esi hs hsP HM HPI hin HPF HP0
                        generalize xs[n.toNat]? = y at *
                        go_wp2_with fail
                        refine wp_region_still_tail 19 (by kernel_rfl) (by kernel_rfl) ?_
                        simp only [List.take_succ_cons, List.take_zero, List.drop_succ_cons, List.drop_zero]
                        iterate 19 still_step
                        refine wpStill_nil ?_
                        change wpList _ _ _ _ _ wr.drew
                        clear hc3 hcell1 hm2 hsi hcelln hci0
                        generalize wr.drew = wz at *
                        have HM2 := Lib.hid (HSET.out.cong (fun _ => rfl) (fun _ => rfl) (fun _ => rfl) (fun _ _ _ h => h) (fun i _ => HST.out i))
                        clear HSET HST HMd HPd
                        go_wp2
                        go_roundw
                        case rel => exact ⟨q + 1, by omega, by go_num, HM2.out⟩
                        case measure => simp [intOf]; omega
                      · have HM2 := Lib.hid (BAt.cong (J' := PJ (l.map PX.p) fs xs j (q + 1)) ⟨R, X, HM.out, HPI.out⟩ (fun _ => rfl) (fun _ => rfl) (fun _ => rfl) (fun _ _ _ h => h) (fun i _ => PJ_stay (y := fs[(p.V[q]'hqv).toNat]?) (by rw [HPF.out]; unfold ip; rw [if_pos (by omega)]) HP0.out i))
                        clear HM HPI HPF HP0 hin
                        go_wp2
                        go_roundw
                        case rel => exact ⟨q + 1, by omega, by go_num, HM2.out⟩
                        case measure => simp [intOf]; omega
                    · have hq0 : q = p.infos.length := by omega
                      subst hq0
                      obtain ⟨e1, e2⟩ := PJ_len (fs := fs) (xs := xs) HPS.out HXF.out.v1
                      have HM2 := Lib.hid (BAt.cong (J' := PJ (l.map PX.p) fs xs (j + 1) 0) ⟨R, X, HM.out, HPI.out⟩ (fun _ => rfl) (fun _ => rfl) (fun _ => rfl) (fun _ _ _ h => h) (fun i _ => PJ_next (l.map PX.p) fs xs j p.infos.length (by rw [e1, HXF.out.v1]; exact Nat.le_refl _) (by rw [e2, HXF.out.v1]; exact Nat.le_refl _) i))
                      clear e1 e2 hlt6 hq HM HPI
                      go_wp2
                      go_roundw
                      case rel => exact ⟨j + 1, by omega, by go_num, HM2.out⟩
                      case measure => simp [intOf]; omega
                · have hj5 : j = l.length := by omega
                  subst hj5
                  clear hlt5 hj
                  have hb1 : wr.cell? ⟨w.heap.size, 1, none⟩ = some (.slice v.A1 d.infos.length v.c1) := HM.out.box.cell 1
                  have hs7 := Lib.hid (show BAt w w.heap.size (w.heap.size + 1) v d (l.map PX.p) rs fs xs v1 v2 v3 (FF rs d d.fields.length 0) (II fs xs d 0) (MM d 0) P0 (PJ (l.map PX.p) fs xs l.length 0) wr from BAt.cong ⟨R, X, HM.out, HPI.out⟩ (fun _ => rfl) (fun i => by unfold II; simp) (fun i => by unfold MM; simp) (fun _ _ _ h => h) (fun _ _ => rfl))
                  clear HM HPI
                  go_wp2
                  clear hb1
                  go_loopw [149] (fun k wr => ∃ j : Nat, j ≤ d.infos.length ∧ k = .int .i64 j ∧ BAt w w.heap.size (w.heap.size + 1) v d (l.map PX.p) rs fs xs v1 v2 v3 (FF rs d d.fields.length 0) (II fs xs d j) (MM d j) P0 (PJ (l.map PX.p) fs xs l.length 0) wr) (fun k _ => d.infos.length - (intOf k).toNat)
                  case atStart => exact ⟨0, Nat.zero_le _, rfl, hs7.out⟩
                  case round =>
                    clear hs7
                    obtain ⟨j, hj, rfl, R, X, hM, hPI⟩ := hrel
                    have HM := Lib.hid hM
                    have HPI := Lib.hid hPI
                    clear hM hPI
                    have hi64 : d.infos.length ≤ 64 := by have := E1.out; omega
                    by_cases hlt7 : j < d.infos.length
                    · obtain ⟨ad1, hA1, hc2⟩ := int_at HV.out.h1 (j := j) (by omega)
                      have hc3 : _ = some (Value.int .i64 (d.infos[j]'(by omega))) := pw_cell_below HM.out.below hc2
                      have hin := HIb.out (d.infos[j]'(by omega)) (List.getElem_mem _)
                      have HIN := Lib.hid (show d.infos.getD j 0 = d.infos[j]'(by omega) by simp [List.getD_eq_getElem?_getD, List.getElem?_eq_getElem (show j < d.infos.length by omega)])
                      generalize d.infos[j]'(by omega) = n at *
                      obtain ⟨b, hbj⟩ : ∃ b, rs[j]? = some b := ⟨rs[j]'(by have := HRL.out; have := E1.out; omega), List.getElem?_eq_getElem (by have := HRL.out; have := E1.out; omega)⟩
                      have HBJ := Lib.hid hbj
                      have hjr : j < rs.length := by have := HRL.out; have := E1.out; omega
                      have hm64 : d.marks.length ≤ 64 := by have := E2.out; omega
                      have hjm : j < d.marks.length := by have := E2.out; have := E1.out; omega
                      clear hc2 hbj
                      obtain ⟨A0, c0, A1, c1, A2, c2, A3, c3, A4, c4⟩ := v
                      simp only at hA1
                      subst hA1
                      by_cases hn : 0 ≤ n
                      · have hjf : j < fs.length := by have h : fs.length = rs.length := HM.out.stage.len; omega
                        have hn1 : n < xs.length := by have := hin.2; have := HLL.out; have := HX0.out; omega
                        obtain ⟨b0, k0, hv, hcell⟩ := owns_at HM.out.made.o1 (j := j) (by omega)
                        rw [HBJ.out] at hcell
                        have hcell1 : _ = some (Value.pointer (some ⟨b, 0, none⟩)) := hcell
                        have hmm0 := HM.out.at0
                        rw [hv] at hmm0
                        obtain ⟨f0, kf, hvf, hcf⟩ := owns_at HM.out.made.o2 (j := j) (by omega)
                        have hmm1 := HM.out.at1
                        rw [hvf] at hmm1
                        obtain ⟨x0, kx, hvx, hcx⟩ := owns_at HM.out.made.o3 (j := n.toNat) (by omega)
                        have hmm2 := HM.out.at2
                        rw [hvx] at hmm2
                        obtain ⟨fb, hfb, hfbl⟩ := HM.out.stage.r j b HBJ.out
                        have HMd := Lib.hid HM.out.drew
                        have HPd := Lib.hid (HPI.out.below (w' := wr.drew) (Below.refl _ _).drew)
                        have HFZ := Lib.hid (freeze_nil R X wr.drew HMd.out.stage.rep b _ hfb fs[j]? xs[n.toNat]? (HMd.out.stage.okF j) (HMd.out.stage.okX n.toNat) (by show II fs xs d j j = _; unfold II; rw [if_neg (Nat.lt_irrefl _)]))
                        have HFB := Lib.hid hfb
                        have HIP := Lib.hid (show ip fs xs j n = xs[n.toNat]? by unfold ip; rw [if_neg (by omega)])
                        generalize fs[j]? = fj at *
                        generalize xs[n.toNat]? = xn at *
                        clear hv hcell hvf hvx hfb hfbl hin HM HPI
                        go_wp2_with fail
                        refine wp_region_still_tail 21 (by kernel_rfl) (by kernel_rfl) ?_
                        simp only [List.take_succ_cons, List.take_zero, List.drop_succ_cons, List.drop_zero]
                        iterate 21 still_step
                        refine wpStill_nil ?_
                        change wpList _ _ _ _ _ wr.drew
                        clear hc3 hcell1 hmm0 hmm1 hmm2 hcf hcx
                        generalize wr.drew = wz at *
                        go_wp2_with fail
                        refine HFZ.out.mono ?_
                        rintro e w8 ⟨rfl, hf1, hr1⟩
                        have HB1 := Lib.hid (show BAt w w.heap.size (w.heap.size + 1) _ d (l.map PX.p) rs fs xs v1 v2 v3 (FF rs d d.fields.length 0) (fun k => if k = j then ip fs xs j n else II fs xs d j k) (MM d j) P0 (PJ (l.map PX.p) fs xs l.length 0) w8 from (BAt.turnR HMd.out HPd.out HBJ.out HFB.out (.inl rfl) hf1 hr1).cong (fun i => by split <;> simp_all) (fun i => by rw [← HIP.out]) (fun i => by split <;> simp_all) (fun _ _ _ h => h) (fun _ _ => rfl))
                        clear hf1 hr1 HMd HPd HFZ HFB HIP
                        have hbx2 : w8.cell? ⟨w.heap.size, 2, none⟩ = some (.slice A2 d.marks.length c2) := by obtain ⟨_, _, h, _⟩ := HB1.out; exact h.box.cell 2
                        obtain ⟨adm, hAm, hm0⟩ := bool_at HV.out.h2 (j := j) hjm
                        have hm1 : w8.cell? (adm.add j) = some (.bool (d.marks[j]'hjm)) := by obtain ⟨_, _, h, _⟩ := HB1.out; exact pw_cell_below h.below hm0
                        have HMK := Lib.hid (show d.marks.getD j false = d.marks[j]'hjm by simp [List.getD_eq_getElem?_getD, List.getElem?_eq_getElem hjm])
                        generalize d.marks[j]'hjm = mk at *
                        simp only at hAm
                        rw [hAm] at hbx2
                        clear hAm
                        clear hm0
                        cases mk with
                        | false =>
                          have HM2 := Lib.hid (HB1.out.cong (F' := (FF rs d d.fields.length 0)) (I' := II fs xs d (j + 1)) (M' := MM d (j + 1)) (fun _ => rfl) (fun i => by rw [← II_next, HIN.out]) (fun i => by rw [← MM_next, HMK.out]; split <;> simp_all [MM]) (fun _ _ _ h => h) (fun _ _ => rfl))
                          clear HB1 HMK
                          go_wp2
                          go_roundw
                          case rel => exact ⟨j + 1, by omega, by go_num, HM2.out⟩
                          case measure => simp [intOf]; omega
                        | true =>
                          obtain ⟨R1, X1, hM1, hPI1⟩ := HB1.out
                          obtain ⟨fb1, hfb1, _⟩ := hM1.stage.r j b HBJ.out
                          obtain ⟨b0, k0, hv, hcell⟩ := owns_at hM1.made.o1 (j := j) hjr
                          rw [HBJ.out] at hcell
                          have hcell1 : w8.cell? _ = some (Value.pointer (some ⟨b, 0, none⟩)) := hcell
                          have hmm0 := hM1.at0
                          rw [hv] at hmm0
                          have HMK1 := Lib.hid (mark_nil R1 X1 w8 hM1.stage.rep b _ hfb1)
                          have HM1 := Lib.hid hM1
                          have HPI1 := Lib.hid hPI1
                          have HFB1 := Lib.hid hfb1
                          clear HB1 hM1 hPI1 hfb1 hv hcell
                          go_wp2_with fail
                          refine HMK1.out.mono ?_
                          rintro e w9 ⟨rfl, hf1, hr1⟩
                          have HM2 := Lib.hid ((BAt.turnR HM1.out HPI1.out HBJ.out (by simpa using HFB1.out) (.inl rfl) hf1 hr1).cong (F' := (FF rs d d.fields.length 0)) (I' := II fs xs d (j + 1)) (M' := MM d (j + 1)) (fun i => by split <;> simp_all) (fun i => by rw [← II_next, HIN.out]; split <;> simp_all) (fun i => by rw [← MM_next, HMK.out]) (fun _ _ _ h => h) (fun _ _ => rfl))
                          clear hf1 hr1 HM1 HPI1 HFB1 HMK1 HMK hbx2 hm1 hcell1 hmm0
                          go_wp2
                          go_roundw
                          case rel => exact ⟨j + 1, by omega, by go_num, HM2.out⟩
                          case measure => simp [intOf]; omega
                      · have HB1 := Lib.hid (show BAt w w.heap.size (w.heap.size + 1) _ d (l.map PX.p) rs fs xs v1 v2 v3 (FF rs d d.fields.length 0) (fun k => if k = j then ip fs xs j n else II fs xs d j k) (MM d j) P0 (PJ (l.map PX.p) fs xs l.length 0) wr from BAt.cong ⟨R, X, HM.out, HPI.out⟩ (fun _ => rfl) (fun i => II_neg fs xs d j n (by omega) i) (fun _ => rfl) (fun _ _ _ h => h) (fun _ _ => rfl))
                        clear HM HPI hin
                        have hbx2 : wr.cell? ⟨w.heap.size, 2, none⟩ = some (.slice A2 d.marks.length c2) := by obtain ⟨_, _, h, _⟩ := HB1.out; exact h.box.cell 2
                        obtain ⟨adm, hAm, hm0⟩ := bool_at HV.out.h2 (j := j) hjm
                        have hm1 : wr.cell? (adm.add j) = some (.bool (d.marks[j]'hjm)) := by obtain ⟨_, _, h, _⟩ := HB1.out; exact pw_cell_below h.below hm0
                        have HMK := Lib.hid (show d.marks.getD j false = d.marks[j]'hjm by simp [List.getD_eq_getElem?_getD, List.getElem?_eq_getElem hjm])
                        generalize d.marks[j]'hjm = mk at *
                        simp only at hAm
                        rw [hAm] at hbx2
                        clear hAm
                        clear hm0
                        cases mk with
                        | false =>
                          have HM2 := Lib.hid (HB1.out.cong (F' := (FF rs d d.fields.length 0)) (I' := II fs xs d (j + 1)) (M' := MM d (j + 1)) (fun _ => rfl) (fun i => by rw [← II_next, HIN.out]) (fun i => by rw [← MM_next, HMK.out]; split <;> simp_all [MM]) (fun _ _ _ h => h) (fun _ _ => rfl))
                          clear HB1 HMK
                          go_wp2
                          go_roundw
                          case rel => exact ⟨j + 1, by omega, by go_num, HM2.out⟩
                          case measure => simp [intOf]; omega
                        | true =>
                          obtain ⟨R1, X1, hM1, hPI1⟩ := HB1.out
                          obtain ⟨fb1, hfb1, _⟩ := hM1.stage.r j b HBJ.out
                          obtain ⟨b0, k0, hv, hcell⟩ := owns_at hM1.made.o1 (j := j) hjr
                          rw [HBJ.out] at hcell
                          have hcell1 : wr.cell? _ = some (Value.pointer (some ⟨b, 0, none⟩)) := hcell
                          have hmm0 := hM1.at0
                          rw [hv] at hmm0
                          have HMK1 := Lib.hid (mark_nil R1 X1 wr hM1.stage.rep b _ hfb1)
                          have HM1 := Lib.hid hM1
                          have HPI1 := Lib.hid hPI1
                          have HFB1 := Lib.hid hfb1
                          clear HB1 hM1 hPI1 hfb1 hv hcell
                          go_wp2_with fail
                          refine HMK1.out.mono ?_
                          rintro e w9 ⟨rfl, hf1, hr1⟩
                          have HM2 := Lib.hid ((BAt.turnR HM1.out HPI1.out HBJ.out (by simpa using HFB1.out) (.inl rfl) hf1 hr1).cong (F' := (FF rs d d.fields.length 0)) (I' := II fs xs d (j + 1)) (M' := MM d (j + 1)) (fun i => by split <;> simp_all) (fun i => by rw [← II_next, HIN.out]; split <;> simp_all) (fun i => by rw [← MM_next, HMK.out]) (fun _ _ _ h => h) (fun _ _ => rfl))
                          clear hf1 hr1 HM1 HPI1 HFB1 HMK1 HMK hbx2 hm1 hcell1 hmm0
                          go_wp2
                          go_roundw
                          case rel => exact ⟨j + 1, by omega, by go_num, HM2.out⟩
                          case measure => simp [intOf]; omega
                    · have hj7 : j = d.infos.length := by omega
                      subst hj7
                      clear hlt7 hj
                      have hb3 : wr.cell? ⟨w.heap.size, 3, none⟩ = some (.slice v.A3 d.states.length v.c3) := HM.out.box.cell 3
                      have hs8 := Lib.hid (show BAt w w.heap.size (w.heap.size + 1) v d (l.map PX.p) rs fs xs v1 v2 v3 (FF rs d d.fields.length 0) (II fs xs d d.fields.length) (MM d d.fields.length) (SS d 0) (PJ (l.map PX.p) fs xs l.length 0) wr from BAt.cong ⟨R, X, HM.out, HPI.out⟩ (fun _ => rfl) (fun i => by rw [E1.out]) (fun i => by rw [E1.out]) (fun i s _ h => by unfold SS; simpa [P0] using h) (fun _ _ => rfl))
                      clear HM HPI
                      go_wp2
                      clear hb3
                      go_loopw [195] (fun k wr => ∃ j : Nat, j ≤ d.states.length ∧ k = .int .i64 j ∧ BAt w w.heap.size (w.heap.size + 1) v d (l.map PX.p) rs fs xs v1 v2 v3 (FF rs d d.fields.length 0) (II fs xs d d.fields.length) (MM d d.fields.length) (SS d j) (PJ (l.map PX.p) fs xs l.length 0) wr) (fun k _ => d.states.length - (intOf k).toNat)
                      case atStart => exact ⟨0, Nat.zero_le _, rfl, hs8.out⟩
                      case round =>
                        clear hs8
                        obtain ⟨j, hj, rfl, R, X, hM, hPI⟩ := hrel
                        have HM := Lib.hid hM
                        have HPI := Lib.hid hPI
                        clear hM hPI
                        by_cases hlt8 : j < d.states.length
                        · obtain ⟨ad1, hA1, hc2⟩ := int_at HV.out.h3 hlt8
                          have hc3 : _ = some (Value.int .i64 d.states[j]) := pw_cell_below HM.out.below hc2
                          have hin := HSb.out d.states[j] (List.getElem_mem _)
                          have HSN := Lib.hid (show d.states.getD j 0 = d.states[j] by simp [List.getD_eq_getElem?_getD, List.getElem?_eq_getElem hlt8])
                          generalize d.states[j] = n at *
                          obtain ⟨b, hbj⟩ : ∃ b, xs[j]? = some b := ⟨xs[j]'(by have := HX0.out; have := HLL.out; omega), List.getElem?_eq_getElem (by have := HX0.out; have := HLL.out; omega)⟩
                          have HBJ := Lib.hid hbj
                          have hjx : j < xs.length := by have := HX0.out; have := HLL.out; omega
                          have hz64 : d.frozen.length ≤ 64 := by have := E4.out; omega
                          have hjz : j < d.frozen.length := by have := E4.out; omega
                          clear hc2 hbj
                          obtain ⟨A0, c0, A1, c1, A2, c2, A3, c3, A4, c4⟩ := v
                          simp only at hA1
                          subst hA1
                          have hn3 : n = 0 ∨ n = 1 ∨ n = 2 := by have := hin.1; have := hin.2; omega
                          clear hin
                          rcases hn3 with rfl | rfl | rfl
                          · have HB1 := Lib.hid (show BAt w w.heap.size (w.heap.size + 1) _ d (l.map PX.p) rs fs xs v1 v2 v3 (FF rs d d.fields.length 0) (II fs xs d d.fields.length) (MM d d.fields.length) (fun k s => if k = j then s.state = 0 ∧ s.frozen = false else SS d j k s) (PJ (l.map PX.p) fs xs l.length 0) wr from BAt.cong ⟨R, X, HM.out, HPI.out⟩ (fun _ => rfl) (fun _ => rfl) (fun _ => rfl) (fun k s _ h => by
                              split
                              · subst k; unfold SS at h; rw [if_neg (Nat.lt_irrefl _), if_neg (Nat.lt_irrefl _)] at h; exact h
                              · exact h) (fun _ _ => rfl))
                            clear HM HPI
                            have hbx4 : wr.cell? ⟨w.heap.size, 4, none⟩ = some (.slice A4 d.frozen.length c4) := by obtain ⟨_, _, h, _⟩ := HB1.out; exact h.box.cell 4
                            obtain ⟨adm, hAm, hm0⟩ := bool_at HV.out.h4 (j := j) hjz
                            have hm1 : wr.cell? (adm.add j) = some (.bool (d.frozen[j]'hjz)) := by obtain ⟨_, _, h, _⟩ := HB1.out; exact pw_cell_below h.below hm0
                            have HMK := Lib.hid (show d.frozen.getD j false = d.frozen[j]'hjz by simp [List.getD_eq_getElem?_getD, List.getElem?_eq_getElem hjz])
                            generalize d.frozen[j]'hjz = mk at *
                            simp only at hAm
                            rw [hAm] at hbx4
                            clear hAm
                            clear hm0
                            cases mk with
                            | false =>
                              have HM2 := Lib.hid (HB1.out.cong (P' := SS d (j + 1)) (fun _ => rfl) (fun _ => rfl) (fun _ => rfl) (fun k s _ h => by
                                by_cases e : k = j
                                · subst e; rw [if_pos rfl] at h; unfold SS; rw [if_pos (by omega), if_pos (by omega), HSN.out, HMK.out]; exact h
                                · rw [if_neg e] at h; exact SS_up e h) (fun _ _ => rfl))
                              clear HB1 HMK
                              go_wp2
                              go_roundw
                              case rel => exact ⟨j + 1, by omega, by go_num, HM2.out⟩
                              case measure => simp [intOf]; omega
                            | true =>
                              obtain ⟨R1, X1, hM1, hPI1⟩ := HB1.out
                              obtain ⟨s1, hs1, hsp1⟩ := hM1.stage.x j b HBJ.out
                              rw [if_pos rfl] at hsp1
                              obtain ⟨b0, k0, hv, hcell⟩ := owns_at hM1.made.o3 (j := j) hjx
                              rw [HBJ.out] at hcell
                              have hcell1 : wr.cell? _ = some (Value.pointer (some ⟨b, 0, none⟩)) := hcell
                              have hmm2 := hM1.at2
                              rw [hv] at hmm2
                              have HSA := Lib.hid (saf_nil R1 X1 wr hM1.stage.rep b _ hs1)
                              have HTN := Lib.hid (fun w1 hf hr => BAt.turnX (w1 := w1) (q' := { s1 with frozen := true }) (P' := SS d (j + 1)) hM1 hPI1 HBJ.out hs1 hf hr rfl rfl rfl rfl rfl rfl rfl (by unfold SS; rw [if_pos (by omega), if_pos (by omega), HSN.out, HMK.out]; exact ⟨hsp1.1, rfl⟩) (fun k s e h => by rw [if_neg e] at h; exact SS_up e h))
                              clear HB1 hM1 hPI1 hs1 hsp1 hv hcell
                              go_wp2_with fail
                              refine HSA.out.mono ?_
                              rintro e w9 ⟨rfl, hf1, hr1⟩
                              have HM2 := Lib.hid (HTN.out w9 hf1 hr1)
                              clear hf1 hr1 HTN HSA HMK hbx4 hm1 hcell1 hmm2
                              go_wp2
                              go_roundw
                              case rel => exact ⟨j + 1, by omega, by go_num, HM2.out⟩
                              case measure => simp [intOf]; omega
                          · skip
                            obtain ⟨s0, hs0, hsp0⟩ := HM.out.stage.x j b HBJ.out
                            obtain ⟨b0, k0, hv, hcell⟩ := owns_at HM.out.made.o3 (j := j) hjx
                            rw [HBJ.out] at hcell
                            have hcell1 : _ = some (Value.pointer (some ⟨b, 0, none⟩)) := hcell
                            have hmm2 := HM.out.at2
                            rw [hv] at hmm2
                            have HSA := Lib.hid (commit_nil R X wr HM.out.stage.rep b _ hs0)
                            have HTN := Lib.hid (fun w1 hf hr => BAt.turnX (w1 := w1) (q' := { s0 with state := 1 }) (P' := fun k s => if k = j then s.state = 1 ∧ s.frozen = false else SS d j k s) HM.out HPI.out HBJ.out hs0 hf hr rfl rfl rfl rfl rfl rfl rfl (by rw [if_pos rfl]; unfold SS at hsp0; rw [if_neg (Nat.lt_irrefl _), if_neg (Nat.lt_irrefl _)] at hsp0; exact ⟨rfl, hsp0.2⟩) (fun k s e h => by rw [if_neg e]; exact h))
                            clear hs0 hsp0 hv hcell HM HPI
                            go_wp2_with fail
                            refine HSA.out.mono ?_
                            rintro e w8 ⟨rfl, hf1, hr1⟩
                            have HB1 := Lib.hid (HTN.out w8 hf1 hr1)
                            clear hf1 hr1 HTN HSA hc3 hcell1 hmm2
                            have hbx4 : w8.cell? ⟨w.heap.size, 4, none⟩ = some (.slice A4 d.frozen.length c4) := by obtain ⟨_, _, h, _⟩ := HB1.out; exact h.box.cell 4
                            obtain ⟨adm, hAm, hm0⟩ := bool_at HV.out.h4 (j := j) hjz
                            have hm1 : w8.cell? (adm.add j) = some (.bool (d.frozen[j]'hjz)) := by obtain ⟨_, _, h, _⟩ := HB1.out; exact pw_cell_below h.below hm0
                            have HMK := Lib.hid (show d.frozen.getD j false = d.frozen[j]'hjz by simp [List.getD_eq_getElem?_getD, List.getElem?_eq_getElem hjz])
                            generalize d.frozen[j]'hjz = mk at *
                            simp only at hAm
                            rw [hAm] at hbx4
                            clear hAm
                            clear hm0
                            cases mk with
                            | false =>
                              have HM2 := Lib.hid (HB1.out.cong (P' := SS d (j + 1)) (fun _ => rfl) (fun _ => rfl) (fun _ => rfl) (fun k s _ h => by
                                by_cases e : k = j
                                · subst e; rw [if_pos rfl] at h; unfold SS; rw [if_pos (by omega), if_pos (by omega), HSN.out, HMK.out]; exact h
                                · rw [if_neg e] at h; exact SS_up e h) (fun _ _ => rfl))
                              clear HB1 HMK
                              go_wp2
                              go_roundw
                              case rel => exact ⟨j + 1, by omega, by go_num, HM2.out⟩
                              case measure => simp [intOf]; omega
                            | true =>
                              obtain ⟨R1, X1, hM1, hPI1⟩ := HB1.out
                              obtain ⟨s1, hs1, hsp1⟩ := hM1.stage.x j b HBJ.out
                              rw [if_pos rfl] at hsp1
                              obtain ⟨b0, k0, hv, hcell⟩ := owns_at hM1.made.o3 (j := j) hjx
                              rw [HBJ.out] at hcell
                              have hcell1 : w8.cell? _ = some (Value.pointer (some ⟨b, 0, none⟩)) := hcell
                              have hmm2 := hM1.at2
                              rw [hv] at hmm2
                              have HSA := Lib.hid (saf_nil R1 X1 w8 hM1.stage.rep b _ hs1)
                              have HTN := Lib.hid (fun w1 hf hr => BAt.turnX (w1 := w1) (q' := { s1 with frozen := true }) (P' := SS d (j + 1)) hM1 hPI1 HBJ.out hs1 hf hr rfl rfl rfl rfl rfl rfl rfl (by unfold SS; rw [if_pos (by omega), if_pos (by omega), HSN.out, HMK.out]; exact ⟨hsp1.1, rfl⟩) (fun k s e h => by rw [if_neg e] at h; exact SS_up e h))
                              clear HB1 hM1 hPI1 hs1 hsp1 hv hcell
                              go_wp2_with fail
                              refine HSA.out.mono ?_
                              rintro e w9 ⟨rfl, hf1, hr1⟩
                              have HM2 := Lib.hid (HTN.out w9 hf1 hr1)
                              clear hf1 hr1 HTN HSA HMK hbx4 hm1 hcell1 hmm2
                              go_wp2
                              go_roundw
                              case rel => exact ⟨j + 1, by omega, by go_num, HM2.out⟩
                              case measure => simp [intOf]; omega
                          · skip
                            obtain ⟨s0, hs0, hsp0⟩ := HM.out.stage.x j b HBJ.out
                            obtain ⟨b0, k0, hv, hcell⟩ := owns_at HM.out.made.o3 (j := j) hjx
                            rw [HBJ.out] at hcell
                            have hcell1 : _ = some (Value.pointer (some ⟨b, 0, none⟩)) := hcell
                            have hmm2 := HM.out.at2
                            rw [hv] at hmm2
                            have HSA := Lib.hid (abort_nil R X wr HM.out.stage.rep b _ hs0)
                            have HTN := Lib.hid (fun w1 hf hr => BAt.turnX (w1 := w1) (q' := { s0 with state := 2 }) (P' := fun k s => if k = j then s.state = 2 ∧ s.frozen = false else SS d j k s) HM.out HPI.out HBJ.out hs0 hf hr rfl rfl rfl rfl rfl rfl rfl (by rw [if_pos rfl]; unfold SS at hsp0; rw [if_neg (Nat.lt_irrefl _), if_neg (Nat.lt_irrefl _)] at hsp0; exact ⟨rfl, hsp0.2⟩) (fun k s e h => by rw [if_neg e]; exact h))
                            clear hs0 hsp0 hv hcell HM HPI
                            go_wp2_with fail
                            refine HSA.out.mono ?_
                            rintro e w8 ⟨rfl, hf1, hr1⟩
                            have HB1 := Lib.hid (HTN.out w8 hf1 hr1)
                            clear hf1 hr1 HTN HSA hc3 hcell1 hmm2
                            have hbx4 : w8.cell? ⟨w.heap.size, 4, none⟩ = some (.slice A4 d.frozen.length c4) := by obtain ⟨_, _, h, _⟩ := HB1.out; exact h.box.cell 4
                            obtain ⟨adm, hAm, hm0⟩ := bool_at HV.out.h4 (j := j) hjz
                            have hm1 : w8.cell? (adm.add j) = some (.bool (d.frozen[j]'hjz)) := by obtain ⟨_, _, h, _⟩ := HB1.out; exact pw_cell_below h.below hm0
                            have HMK := Lib.hid (show d.frozen.getD j false = d.frozen[j]'hjz by simp [List.getD_eq_getElem?_getD, List.getElem?_eq_getElem hjz])
                            generalize d.frozen[j]'hjz = mk at *
                            simp only at hAm
                            rw [hAm] at hbx4
                            clear hAm
                            clear hm0
                            cases mk with
                            | false =>
                              have HM2 := Lib.hid (HB1.out.cong (P' := SS d (j + 1)) (fun _ => rfl) (fun _ => rfl) (fun _ => rfl) (fun k s _ h => by
                                by_cases e : k = j
                                · subst e; rw [if_pos rfl] at h; unfold SS; rw [if_pos (by omega), if_pos (by omega), HSN.out, HMK.out]; exact h
                                · rw [if_neg e] at h; exact SS_up e h) (fun _ _ => rfl))
                              clear HB1 HMK
                              go_wp2
                              go_roundw
                              case rel => exact ⟨j + 1, by omega, by go_num, HM2.out⟩
                              case measure => simp [intOf]; omega
                            | true =>
                              obtain ⟨R1, X1, hM1, hPI1⟩ := HB1.out
                              obtain ⟨s1, hs1, hsp1⟩ := hM1.stage.x j b HBJ.out
                              rw [if_pos rfl] at hsp1
                              obtain ⟨b0, k0, hv, hcell⟩ := owns_at hM1.made.o3 (j := j) hjx
                              rw [HBJ.out] at hcell
                              have hcell1 : w8.cell? _ = some (Value.pointer (some ⟨b, 0, none⟩)) := hcell
                              have hmm2 := hM1.at2
                              rw [hv] at hmm2
                              have HSA := Lib.hid (saf_nil R1 X1 w8 hM1.stage.rep b _ hs1)
                              have HTN := Lib.hid (fun w1 hf hr => BAt.turnX (w1 := w1) (q' := { s1 with frozen := true }) (P' := SS d (j + 1)) hM1 hPI1 HBJ.out hs1 hf hr rfl rfl rfl rfl rfl rfl rfl (by unfold SS; rw [if_pos (by omega), if_pos (by omega), HSN.out, HMK.out]; exact ⟨hsp1.1, rfl⟩) (fun k s e h => by rw [if_neg e] at h; exact SS_up e h))
                              clear HB1 hM1 hPI1 hs1 hsp1 hv hcell
                              go_wp2_with fail
                              refine HSA.out.mono ?_
                              rintro e w9 ⟨rfl, hf1, hr1⟩
                              have HM2 := Lib.hid (HTN.out w9 hf1 hr1)
                              clear hf1 hr1 HTN HSA HMK hbx4 hm1 hcell1 hmm2
                              go_wp2
                              go_roundw
                              case rel => exact ⟨j + 1, by omega, by go_num, HM2.out⟩
                              case measure => simp [intOf]; omega
                        · have hj8 : j = d.states.length := by omega
                          subst hj8
                          have HL := Lib.hid (BAt.live (ps := l.map PX.p) HRL.out (HX0.out.trans HLL.out) (show BAt w w.heap.size (w.heap.size + 1) v d (l.map PX.p) rs fs xs v1 v2 v3 (FF rs d d.fields.length 0) (II fs xs d d.fields.length) (MM d d.fields.length) (SS d d.states.length) (PJ (l.map PX.p) fs xs (l.map PX.p).length 0) wr from BAt.cong ⟨R, X, HM.out, HPI.out⟩ (fun _ => rfl) (fun _ => rfl) (fun _ => rfl) (fun _ _ _ h => h) (fun i _ => by rw [List.length_map])) (by rw [List.length_map]; exact HLL.out))
                          clear HM HPI hlt8 hj
                          go_wp2
                          exact HQ'.out _ _ ⟨_, rfl, HL.out⟩
end Go.Proofs.YtphhdmopfmelbaaGreat
