/- Joined texts: New NewScx Idx Made HelpA World Num HelpP. -/
import Derived.Test.YtphhdmopfmelbaaGreatM2
import Derived.Deep.RegionWith
import Derived.StillTailTactics

/- record.New. Written by mk.py. -/
namespace Go.Proofs.YtphhdmopfmelbaaGreat
open Go.RowKit Go.Proofs.YtphhdmopfmelbaaGreatW.PrintWords
set_option linter.unusedVariables false
set_option linter.unusedSimpArgs false

/-- The SCX-record that a new record has of its own: Aborted. -/
def firstO : ScxO := ⟨.slice none 0 0, .slice none 0 0, .slice none 0 0, 0, 0, none, none, 2, false⟩
/-- Half-way through the fields. -/
def NewInv (TR TC : Nat) (w : World) (fb b : Nat) (ps : List (Option Nat)) (D : List Value) (j : Nat) (wr : World) : Prop :=
  Below w.heap.size w wr ∧ b < wr.heap.size ∧ Blk wr fb TC ((ps.take j).map pv ++ List.replicate (ps.length - j) (.pointer none)) ∧ Blk wr b TR (D ++ [.slice (some ⟨fb, 0, none⟩) ps.length ps.length, .pointer none, .int .u32 0])
theorem NewInv.next {TR TC : Nat} {w wr w' : World} {fb b : Nat} {ps : List (Option Nat)} {D : List Value} {j : Nat} (h : NewInv TR TC w fb b ps D j wr) (hj : j < ps.length) (hfb : w.heap.size ≤ fb) (hne : TR ≠ TC)
    (hf : Fr wr w' (fun k => k = fb)) (hb : Blk w' fb TC (((ps.take j).map pv ++ List.replicate (ps.length - j) (Value.pointer none)).set j (pv (ps.getD j none)))) : NewInv TR TC w fb b ps D (j + 1) w' := by
  obtain ⟨h1, h2, h3, h4⟩ := h
  refine ⟨h1.trans (hf.below h1.size (fun k hk => by omega)), Nat.lt_of_lt_of_le h2 hf.size, ?_, hf.blk h4 (fun e => ?_)⟩
  · have he : ((ps.take j).map pv ++ List.replicate (ps.length - j) (Value.pointer none)).set j (pv (ps.getD j none)) = (ps.take (j + 1)).map pv ++ List.replicate (ps.length - (j + 1)) (.pointer none) := by
      rw [List.set_append_right _ _ (by simp; omega)]
      have e1 : ps.length - j = (ps.length - (j + 1)) + 1 := by omega
      have e2 : j - ((ps.take j).map pv).length = 0 := by simp; omega
      rw [e1, e2, List.replicate_succ, List.set_cons_zero, List.take_succ_eq_append_getElem hj, List.map_append, List.append_assoc]
      simp [List.getD_eq_getElem?_getD, List.getElem?_eq_getElem hj]
    rw [← he]; exact hb
  · subst e
    exact hne (h4.inj h3).1
theorem NewInv.start {TR TC : Nat} (w : World) (ps : List (Option Nat)) (D : List Value) : NewInv TR TC w w.heap.size (w.heap.size + 1) ps D 0
    ((w.alloc (.cells (nils ps.length) TC)).alloc (.cells (D ++ [Value.slice (some ⟨w.heap.size, 0, none⟩) ps.length ps.length, Value.pointer none, Value.int .u32 0]).toArray TR)) := by
  refine ⟨((Below.refl w.heap.size w).alloc (Nat.le_refl _) _).alloc (by simp) _, by simp, ?_, ?_⟩
  · have := (nils_blk w TC ps.length).alloc (.cells (D ++ [Value.slice (some ⟨w.heap.size, 0, none⟩) ps.length ps.length, Value.pointer none, Value.int .u32 0]).toArray TR)
    simpa using this
  · have := Blk.new (w.alloc (.cells (nils ps.length) TC)) TR (D ++ [Value.slice (some ⟨w.heap.size, 0, none⟩) ps.length ps.length, Value.pointer none, Value.int .u32 0])
    simpa using this
theorem NewInv.drew {TR TC : Nat} {w wr : World} {fb b : Nat} {ps : List (Option Nat)} {D : List Value} {j : Nat} (h : NewInv TR TC w fb b ps D j wr) : NewInv TR TC w fb b ps D j wr.drew := ⟨h.1.drew, h.2.1, h.2.2.1, h.2.2.2⟩
theorem NewInv.of {TR TC : Nat} {w w0 wr : World} {fb b : Nat} {ps : List (Option Nat)} {D : List Value} {j : Nat} (h0 : Below w.heap.size w w0) (h : NewInv TR TC w0 fb b ps D j wr) : NewInv TR TC w fb b ps D j wr :=
  ⟨h0.trans (h.1.mono h0.size), h.2⟩
/-- All of it: the new record, and its first SCX-record. -/
theorem NewInv.done {TR dl TC TX : Nat} {w wr w2 w3 : World} {R : Nat → Option RecO} {X : Nat → Option ScxO} {fb b : Nat} {ps : List (Option Nat)} {D : List Value} (hh : Rep TR dl TC TX w R X) (h : NewInv TR TC w fb b ps D ps.length wr)
    (hk : ∀ p ∈ ps, Ok R p) (hD : D.length = dl) (hb0 : w.heap.size ≤ b) (hfb0 : w.heap.size ≤ fb) (hrx : TR ≠ TX) (hcx : TC ≠ TX) (hrc : TR ≠ TC)
    {zs : Array Value} (hf2 : Fr (wr.alloc (.cells zs TX)) w2 (fun k => k = wr.heap.size)) (hx2 : Blk w2 wr.heap.size TX firstO.cells)
    (hf3 : Fr w2 w3 (fun k => k = b)) (hb3 : Blk w3 b TR (D ++ [.slice (some ⟨fb, 0, none⟩) ps.length ps.length, pv (some wr.heap.size), .int .u32 0])) :
    w.heap.size ≤ wr.heap.size ∧ Below w.heap.size w w3 ∧ Rep TR dl TC TX w3 (upd R b ⟨D, fb, ps, some wr.heap.size, false⟩) (upd X wr.heap.size firstO) := by
  obtain ⟨h1, h2, h3, h4⟩ := h
  have hbel2 : Below w.heap.size w w2 := (h1.alloc h1.size _).trans (hf2.below (Nat.le_trans h1.size (by simp)) (fun k hk => by have := h1.size; omega))
  have hbel3 : Below w.heap.size w w3 := hbel2.trans (hf3.below hbel2.size (fun k hk => by omega))
  refine ⟨h1.size, hbel3, hh.addRec (fb := fb) (o := ⟨D, fb, ps, some wr.heap.size, false⟩) hbel3 hb0 hfb0 hb3 hD ?_ (fun x hx => hk _ hx x rfl) rfl h1.size ?_⟩
  · have e1 : Blk wr fb TC (ps.map pv) := by simpa using h3
    have e2 : Blk w2 fb TC (ps.map pv) := hf2.blk (e1.alloc _) (fun e => by have := e1.lt; omega)
    exact hf3.blk e2 (fun e => by subst e; exact hrc (h4.inj e1).1)
  · exact hf3.blk hx2 (fun e => by omega)

theorem ninfo_int : (Tryz.prog.info? 180).map (fun i => (i.zero, i.size, i.bytes)) = some (some (.agg #[.pointer none]), 1, 8) := by kernel_rfl
set_option maxHeartbeats 1000000 in
set_option maxRecDepth 100000 in
theorem new_int (d : Int) (A : Option Addr) (c : Nat) (ps : List (Option Nat)) (R : Nat → Option RecO) (X : Nat → Option ScxO) (w : World) (h : Repint w R X) (hr : Row1 w A ps.length (ps.map pv)) (hk : ∀ p ∈ ps, Ok R p) (hn : ps.length ≤ 1000000) :
    Calls Tryz.prog 77 #[.int .i64 d, .slice A ps.length c] w fun e w' => ∃ b fb xb, e = .returned (pv (some b)) ∧ w.heap.size ≤ b ∧ w.heap.size ≤ fb ∧ w.heap.size ≤ xb ∧ Below w.heap.size w w' ∧
      Repint w' (upd R b ⟨[.int .i64 d], fb, ps, some xb, false⟩) (upd X xb firstO) := by
  have hmk := fun w => run_make_nils (P := Tryz.prog) Tryz.underlying168 ninfo_int rfl ps.length (by omega) (by omega) w
  refine calls_hide fun Q HQ => ?_
  have HQ' := Lib.hid HQ
  have HK := Lib.hid hk
  have HR := Lib.hid hr
  have HH := Lib.hid h
  clear HQ hk hr h
  go_enter Tryz.func77, Tryz.ntmps77
  go_wp2
  have hst := NewInv.start (TR := 175) (TC := 180) w ps [.int .i64 d]
  go_loopw [17] (fun k wr => ∃ j : Nat, j ≤ ps.length ∧ k = .int .i64 j ∧ NewInv 175 180 w w.heap.size (w.heap.size + 1) ps [.int .i64 d] j wr) (fun k _ => ps.length - (intOf k).toNat)
  case atStart => first | exact ⟨0, Nat.zero_le _, rfl, hst⟩ | exact ⟨0, Nat.zero_le _, rfl, by simpa using hst⟩
  case round =>
    clear hst
    obtain ⟨j, hj, rfl, hI⟩ := hrel
    have HI := Lib.hid hI
    have hbel := hI.1
    have hsz := hI.2.1
    clear hI
    by_cases hlt : j < ps.length
    · have hx0 : (ps.map pv)[j]? = some (pv (ps.getD j none)) := by simp [List.getD_eq_getElem?_getD, List.getElem?_eq_getElem hlt]
      obtain ⟨ad, hA, hc0⟩ := HR.out.at_ hx0
      have hc : wr.cell? (ad.add j) = some (pv (ps.getD j none)) := pw_cell_below hbel hc0
      have hsl : wr.cell? ⟨(w.heap.size + 1), 1, none⟩ = some (.slice (some ⟨w.heap.size, 0, none⟩) ps.length ps.length) := by rw [HI.out.2.2.2.cell]; rfl
      have hp : PtrTo 175 4 wr (ps.getD j none) := (HH.out.below hbel).recPtr (HK.out _ (by simp [List.getD_eq_getElem?_getD, List.getElem?_eq_getElem hlt]))
      have hu : ((ps.take j).map pv ++ List.replicate (ps.length - j) (Value.pointer none))[j]? = some (.pointer none) := by
        rw [List.getElem?_append_right (by simp; omega), List.getElem?_replicate, if_pos (by simp; omega)]
      have HC := Lib.hid (cell_store_Recordint 0 none [] w.heap.size j 180 _ wr (GAt.nil _ _ _ _ _) (Nat.zero_le _) (by simp) HI.out.2.2.1 (by decide) (by decide) (ps.getD j none) _ hu hp)
      have HN := Lib.hid (fun w' hf hb => HI.out.next (w' := w') hlt (by omega) (by decide) hf hb)
      generalize ps.getD j none = p at *
      clear hbel hx0 hc0 hp hu HR HH HI HK
      subst hA
      go_wp2_with fail
      refine HC.out.mono ?_
      rintro e w1 ⟨rfl, H, hb⟩
      have HN1 := Lib.hid (HN.out w1 H.fr0 hb)
      clear H hb HN HC hc
      go_wp2
      go_roundw
      case rel => exact ⟨j + 1, by omega, by go_num, HN1.out⟩
      case measure => simp [intOf]; omega
    · obtain rfl : j = ps.length := by omega
      have HB := HI.out.2.2.2
      have HC := Lib.hid (num_store 0 none [] wr.heap.size 7 145 [.slice none 0 0, .slice none 0 0, .slice none 0 0, .int .i64 0, .int .i64 0, .pointer none, .pointer none, .int .i64 0, .int .u32 0] (wr.alloc (.cells #[.slice none 0 0, .slice none 0 0, .slice none 0 0, .int .i64 0, .int .i64 0, .pointer none, .pointer none, .int .i64 0, .int .u32 0] 145)) (GAt.nil _ _ _ _ _) (Nat.zero_le _) (by simp) (Blk.new wr _ _) (by decide) (by decide) 2 (by decide) (by decide) (.int .i64 0) rfl)
      have HB1 := Lib.hid HB
      have HR0 := Lib.hid hbel.size
      clear HB hbel
      go_wp2_with fail
      refine HC.out.mono ?_
      rintro e w2 ⟨rfl, H, hb⟩
      have hf2 := Lib.hid H.fr0
      have hx2 := Lib.hid (show Blk w2 wr.heap.size 145 firstO.cells from hb)
      have hr2 := Lib.hid (H.fr0.blk (HB1.out.alloc _) (fun e => by omega))
      have HC2 := Lib.hid (cell_store_Scxint 0 none [] (w.heap.size + 1) 2 175 _ w2 (GAt.nil _ _ _ _ _) (Nat.zero_le _) (by simp) hr2.out (by decide) (by decide) (some wr.heap.size) (.pointer none) rfl (hx2.out.ptr))
      clear H hb HC HB1 hr2
      go_wp2_with fail
      refine HC2.out.mono ?_
      rintro e w3 ⟨rfl, H, hb⟩
      have HD := Lib.hid (HI.out.done HH.out HK.out rfl (by omega) (by omega) (by decide) (by decide) (by decide) hf2.out hx2.out H.fr0 hb)
      clear H hb HC2 hx2 hf2
      go_wp2
      exact HQ'.out _ _ ⟨_, _, _, rfl, by omega, by omega, HD.out.1, HD.out.2.1, HD.out.2.2⟩

theorem ninfo_string : (Tryz.prog.info? 85).map (fun i => (i.zero, i.size, i.bytes)) = some (some (.agg #[.pointer none]), 1, 8) := by kernel_rfl
set_option maxHeartbeats 1000000 in
set_option maxRecDepth 100000 in
theorem new_string (d : ByteArray) (A : Option Addr) (c : Nat) (ps : List (Option Nat)) (R : Nat → Option RecO) (X : Nat → Option ScxO) (w : World) (h : Repstring w R X) (hr : Row1 w A ps.length (ps.map pv)) (hk : ∀ p ∈ ps, Ok R p) (hn : ps.length ≤ 1000000) :
    Calls Tryz.prog 6 #[.string d, .slice A ps.length c] w fun e w' => ∃ b fb xb, e = .returned (pv (some b)) ∧ w.heap.size ≤ b ∧ w.heap.size ≤ fb ∧ w.heap.size ≤ xb ∧ Below w.heap.size w w' ∧
      Repstring w' (upd R b ⟨[.string d], fb, ps, some xb, false⟩) (upd X xb firstO) := by
  have hmk := fun w => run_make_nils (P := Tryz.prog) Tryz.underlying65 ninfo_string rfl ps.length (by omega) (by omega) w
  refine calls_hide fun Q HQ => ?_
  have HQ' := Lib.hid HQ
  have HK := Lib.hid hk
  have HR := Lib.hid hr
  have HH := Lib.hid h
  clear HQ hk hr h
  go_enter Tryz.func6, Tryz.ntmps6
  go_wp2
  have hst := NewInv.start (TR := 80) (TC := 85) w ps [.string d]
  go_loopw [17] (fun k wr => ∃ j : Nat, j ≤ ps.length ∧ k = .int .i64 j ∧ NewInv 80 85 w w.heap.size (w.heap.size + 1) ps [.string d] j wr) (fun k _ => ps.length - (intOf k).toNat)
  case atStart => first | exact ⟨0, Nat.zero_le _, rfl, hst⟩ | exact ⟨0, Nat.zero_le _, rfl, by simpa using hst⟩
  case round =>
    clear hst
    obtain ⟨j, hj, rfl, hI⟩ := hrel
    have HI := Lib.hid hI
    have hbel := hI.1
    have hsz := hI.2.1
    clear hI
    by_cases hlt : j < ps.length
    · have hx0 : (ps.map pv)[j]? = some (pv (ps.getD j none)) := by simp [List.getD_eq_getElem?_getD, List.getElem?_eq_getElem hlt]
      obtain ⟨ad, hA, hc0⟩ := HR.out.at_ hx0
      have hc : wr.cell? (ad.add j) = some (pv (ps.getD j none)) := pw_cell_below hbel hc0
      have hsl : wr.cell? ⟨(w.heap.size + 1), 1, none⟩ = some (.slice (some ⟨w.heap.size, 0, none⟩) ps.length ps.length) := by rw [HI.out.2.2.2.cell]; rfl
      have hp : PtrTo 80 4 wr (ps.getD j none) := (HH.out.below hbel).recPtr (HK.out _ (by simp [List.getD_eq_getElem?_getD, List.getElem?_eq_getElem hlt]))
      have hu : ((ps.take j).map pv ++ List.replicate (ps.length - j) (Value.pointer none))[j]? = some (.pointer none) := by
        rw [List.getElem?_append_right (by simp; omega), List.getElem?_replicate, if_pos (by simp; omega)]
      have HC := Lib.hid (cell_store_Recordstring 0 none [] w.heap.size j 85 _ wr (GAt.nil _ _ _ _ _) (Nat.zero_le _) (by simp) HI.out.2.2.1 (by decide) (by decide) (ps.getD j none) _ hu hp)
      have HN := Lib.hid (fun w' hf hb => HI.out.next (w' := w') hlt (by omega) (by decide) hf hb)
      generalize ps.getD j none = p at *
      clear hbel hx0 hc0 hp hu HR HH HI HK
      subst hA
      go_wp2_with fail
      refine HC.out.mono ?_
      rintro e w1 ⟨rfl, H, hb⟩
      have HN1 := Lib.hid (HN.out w1 H.fr0 hb)
      clear H hb HN HC hc
      go_wp2
      go_roundw
      case rel => exact ⟨j + 1, by omega, by go_num, HN1.out⟩
      case measure => simp [intOf]; omega
    · obtain rfl : j = ps.length := by omega
      have HB := HI.out.2.2.2
      have HC := Lib.hid (num_store 0 none [] wr.heap.size 7 93 [.slice none 0 0, .slice none 0 0, .slice none 0 0, .int .i64 0, .int .i64 0, .pointer none, .pointer none, .int .i64 0, .int .u32 0] (wr.alloc (.cells #[.slice none 0 0, .slice none 0 0, .slice none 0 0, .int .i64 0, .int .i64 0, .pointer none, .pointer none, .int .i64 0, .int .u32 0] 93)) (GAt.nil _ _ _ _ _) (Nat.zero_le _) (by simp) (Blk.new wr _ _) (by decide) (by decide) 2 (by decide) (by decide) (.int .i64 0) rfl)
      have HB1 := Lib.hid HB
      have HR0 := Lib.hid hbel.size
      clear HB hbel
      go_wp2_with fail
      refine HC.out.mono ?_
      rintro e w2 ⟨rfl, H, hb⟩
      have hf2 := Lib.hid H.fr0
      have hx2 := Lib.hid (show Blk w2 wr.heap.size 93 firstO.cells from hb)
      have hr2 := Lib.hid (H.fr0.blk (HB1.out.alloc _) (fun e => by omega))
      have HC2 := Lib.hid (cell_store_Scxstring 0 none [] (w.heap.size + 1) 2 80 _ w2 (GAt.nil _ _ _ _ _) (Nat.zero_le _) (by simp) hr2.out (by decide) (by decide) (some wr.heap.size) (.pointer none) rfl (hx2.out.ptr))
      clear H hb HC HB1 hr2
      go_wp2_with fail
      refine HC2.out.mono ?_
      rintro e w3 ⟨rfl, H, hb⟩
      have HD := Lib.hid (HI.out.done HH.out HK.out rfl (by omega) (by omega) (by decide) (by decide) (by decide) hf2.out hx2.out H.fr0 hb)
      clear H hb HC2 hx2 hf2
      go_wp2
      exact HQ'.out _ _ ⟨_, _, _, rfl, by omega, by omega, HD.out.1, HD.out.2.1, HD.out.2.2⟩
end Go.Proofs.YtphhdmopfmelbaaGreat

/- record.NewScx. Written by mk.py. -/
namespace Go.Proofs.YtphhdmopfmelbaaGreat
open Go.RowKit Go.Proofs.YtphhdmopfmelbaaGreatW.PrintWords
set_option linter.unusedVariables false
set_option linter.unusedSimpArgs false

set_option maxHeartbeats 1000000 in
theorem newscx_int (A1 : Option Addr) (n1 c1 : Nat) (us1 : List Value) (A2 : Option Addr) (n2 c2 : Nat) (us2 : List Value) (A3 : Option Addr) (n3 c3 : Nat) (us3 : List Value) (at_ fld : Int) (old new : Option Nat)
    (R : Nat → Option RecO) (X : Nat → Option ScxO) (w : World) (h : Repint w R X) (hr1 : Row1 w A1 n1 us1) (hr2 : Row1 w A2 n2 us2) (hr3 : Row1 w A3 n3 us3)
    (hA1 : A1 = none → n1 = 0 ∧ c1 = 0) (hA2 : A2 = none → n2 = 0 ∧ c2 = 0) (hA3 : A3 = none → n3 = 0 ∧ c3 = 0)
    (o1 : ∀ u ∈ us1, u.oneCell' = true) (o2 : ∀ u ∈ us2, u.oneCell' = true) (o3 : ∀ u ∈ us3, u.oneCell' = true) (l1 : n1 ≤ 1000000000000) (l2 : n2 ≤ 1000000000000) (l3 : n3 ≤ 1000000000000) :
    Calls Tryz.prog 93 #[.slice A1 n1 c1, .slice A2 n2 c2, .slice A3 n3 c3, .int .i64 at_, .int .i64 fld, pv old, pv new] w fun e w' => ∃ b v1 v2 v3, e = .returned (pv (some b)) ∧ w.heap.size ≤ b ∧ Below w.heap.size w w' ∧
      Repint w' R (upd X b ⟨v1, v2, v3, at_, fld, old, new, 0, false⟩) ∧ w'.ownsRow w.heap.size 143 1 v1 n1 us1 ∧ w'.ownsRow w.heap.size 116 1 v2 n2 us2 ∧ w'.ownsRow w.heap.size 4 1 v3 n3 us3 := by
  refine calls_hide fun Q HQ => ?_
  have HQ' := Lib.hid HQ
  have HC1 := Lib.hid (clone_any_PRecordint A1 n1 c1 us1 w hA1 hr1 o1 l1)
  have HC2 := Lib.hid (fun w hr2 => clone_any_PScxint A2 n2 c2 us2 w hA2 hr2 o2 l2)
  have HC3 := Lib.hid (fun w hr3 => clone_any_bool A3 n3 c3 us3 w hA3 hr3 o3 l3)
  have HR2 := Lib.hid hr2
  have HR3 := Lib.hid hr3
  have HH := Lib.hid h
  clear HQ h hr1 hr2 hr3 hA1 hA2 hA3 o1 o2 o3 l1 l2 l3
  go_enter Tryz.func93, Tryz.ntmps93
  go_wp2_with fail
  refine HC1.out.mono ?_
  rintro e w1 ⟨A1', c1', rfl, q1, _, _, b1⟩
  have Q1 := Lib.hid q1
  have B1 := Lib.hid b1
  have D2 := Lib.hid (HC2.out w1 (HR2.out.below b1))
  clear q1 b1 HC1 HC2
  go_wp2_with fail
  refine D2.out.mono ?_
  rintro e w2 ⟨A2', c2', rfl, q2, _, _, b2⟩
  have Q2 := Lib.hid q2
  have B2 := Lib.hid (B1.out.trans (b2.mono B1.out.size))
  have B12 := Lib.hid b2
  have D3 := Lib.hid (HC3.out w2 ((HR3.out.below B1.out).below b2))
  clear q2 b2 HC3 D2
  go_wp2_with fail
  refine D3.out.mono ?_
  rintro e w3 ⟨A3', c3', rfl, q3, _, _, b3⟩
  have B3 := Lib.hid (B2.out.trans (b3.mono B2.out.size))
  have hk : ∀ (o : Obj) (k : Nat), k < w3.heap.size → (w3.alloc o).heap[k]? = w3.heap[k]? := fun o k hk => Below.heap_alloc _ _ _ hk
  have Q3 := Lib.hid (World.ownsRow.alloc (own_weaken q3 B2.out.size))
  have Q2' := Lib.hid (World.ownsRow.alloc (own_weaken (pw_own_below Q2.out b3) B1.out.size))
  have Q1' := Lib.hid (World.ownsRow.alloc (pw_own_below (pw_own_below Q1.out B12.out) b3))
  have HN := Lib.hid (Blk.new w3 145 (ScxO.cells ⟨.slice A1' n1 c1', .slice A2' n2 c2', .slice A3' n3 c3', at_, fld, old, new, 0, false⟩))
  have HB := Lib.hid (B3.out.alloc B3.out.size (.cells (ScxO.cells ⟨.slice A1' n1 c1', .slice A2' n2 c2', .slice A3' n3 c3', at_, fld, old, new, 0, false⟩).toArray 145))
  have HS := Lib.hid B3.out.size
  clear q3 b3 hk D3 Q1 Q2
  go_wp2
  exact HQ'.out _ _ ⟨_, _, _, _, rfl, HS.out, HB.out, HH.out.addScx HB.out HN.out, Q1'.out _, Q2'.out _, Q3.out _⟩

set_option maxHeartbeats 1000000 in
theorem newscx_string (A1 : Option Addr) (n1 c1 : Nat) (us1 : List Value) (A2 : Option Addr) (n2 c2 : Nat) (us2 : List Value) (A3 : Option Addr) (n3 c3 : Nat) (us3 : List Value) (at_ fld : Int) (old new : Option Nat)
    (R : Nat → Option RecO) (X : Nat → Option ScxO) (w : World) (h : Repstring w R X) (hr1 : Row1 w A1 n1 us1) (hr2 : Row1 w A2 n2 us2) (hr3 : Row1 w A3 n3 us3)
    (hA1 : A1 = none → n1 = 0 ∧ c1 = 0) (hA2 : A2 = none → n2 = 0 ∧ c2 = 0) (hA3 : A3 = none → n3 = 0 ∧ c3 = 0)
    (o1 : ∀ u ∈ us1, u.oneCell' = true) (o2 : ∀ u ∈ us2, u.oneCell' = true) (o3 : ∀ u ∈ us3, u.oneCell' = true) (l1 : n1 ≤ 1000000000000) (l2 : n2 ≤ 1000000000000) (l3 : n3 ≤ 1000000000000) :
    Calls Tryz.prog 10 #[.slice A1 n1 c1, .slice A2 n2 c2, .slice A3 n3 c3, .int .i64 at_, .int .i64 fld, pv old, pv new] w fun e w' => ∃ b v1 v2 v3, e = .returned (pv (some b)) ∧ w.heap.size ≤ b ∧ Below w.heap.size w w' ∧
      Repstring w' R (upd X b ⟨v1, v2, v3, at_, fld, old, new, 0, false⟩) ∧ w'.ownsRow w.heap.size 33 1 v1 n1 us1 ∧ w'.ownsRow w.heap.size 40 1 v2 n2 us2 ∧ w'.ownsRow w.heap.size 4 1 v3 n3 us3 := by
  refine calls_hide fun Q HQ => ?_
  have HQ' := Lib.hid HQ
  have HC1 := Lib.hid (clone_any_PRecordstring A1 n1 c1 us1 w hA1 hr1 o1 l1)
  have HC2 := Lib.hid (fun w hr2 => clone_any_PScxstring A2 n2 c2 us2 w hA2 hr2 o2 l2)
  have HC3 := Lib.hid (fun w hr3 => clone_any_bool A3 n3 c3 us3 w hA3 hr3 o3 l3)
  have HR2 := Lib.hid hr2
  have HR3 := Lib.hid hr3
  have HH := Lib.hid h
  clear HQ h hr1 hr2 hr3 hA1 hA2 hA3 o1 o2 o3 l1 l2 l3
  go_enter Tryz.func10, Tryz.ntmps10
  go_wp2_with fail
  refine HC1.out.mono ?_
  rintro e w1 ⟨A1', c1', rfl, q1, _, _, b1⟩
  have Q1 := Lib.hid q1
  have B1 := Lib.hid b1
  have D2 := Lib.hid (HC2.out w1 (HR2.out.below b1))
  clear q1 b1 HC1 HC2
  go_wp2_with fail
  refine D2.out.mono ?_
  rintro e w2 ⟨A2', c2', rfl, q2, _, _, b2⟩
  have Q2 := Lib.hid q2
  have B2 := Lib.hid (B1.out.trans (b2.mono B1.out.size))
  have B12 := Lib.hid b2
  have D3 := Lib.hid (HC3.out w2 ((HR3.out.below B1.out).below b2))
  clear q2 b2 HC3 D2
  go_wp2_with fail
  refine D3.out.mono ?_
  rintro e w3 ⟨A3', c3', rfl, q3, _, _, b3⟩
  have B3 := Lib.hid (B2.out.trans (b3.mono B2.out.size))
  have hk : ∀ (o : Obj) (k : Nat), k < w3.heap.size → (w3.alloc o).heap[k]? = w3.heap[k]? := fun o k hk => Below.heap_alloc _ _ _ hk
  have Q3 := Lib.hid (World.ownsRow.alloc (own_weaken q3 B2.out.size))
  have Q2' := Lib.hid (World.ownsRow.alloc (own_weaken (pw_own_below Q2.out b3) B1.out.size))
  have Q1' := Lib.hid (World.ownsRow.alloc (pw_own_below (pw_own_below Q1.out B12.out) b3))
  have HN := Lib.hid (Blk.new w3 93 (ScxO.cells ⟨.slice A1' n1 c1', .slice A2' n2 c2', .slice A3' n3 c3', at_, fld, old, new, 0, false⟩))
  have HB := Lib.hid (B3.out.alloc B3.out.size (.cells (ScxO.cells ⟨.slice A1' n1 c1', .slice A2' n2 c2', .slice A3' n3 c3', at_, fld, old, new, 0, false⟩).toArray 93))
  have HS := Lib.hid B3.out.size
  clear q3 b3 hk D3 Q1 Q2
  go_wp2
  exact HQ'.out _ _ ⟨_, _, _, _, rfl, HS.out, HB.out, HH.out.addScx HB.out HN.out, Q1'.out _, Q2'.out _, Q3.out _⟩
end Go.Proofs.YtphhdmopfmelbaaGreat

/- slices.Index of pointers. Written by mk.py. -/
namespace Go.Proofs.YtphhdmopfmelbaaGreat
open Go.RowKit Go.Proofs.YtphhdmopfmelbaaGreatW.PrintWords
set_option linter.unusedVariables false
set_option linter.unusedSimpArgs false

/-- Where x stands first; -1: nowhere. -/
def idx (ps : List (Option Nat)) (x : Option Nat) : Int := match ps.findIdx? (fun p => decide (p = x)) with | some k => k | none => -1
theorem idx_hit {ps : List (Option Nat)} {x : Option Nat} {k : Nat} (hk : k < ps.length) (hn : ∀ j, j < k → ¬ ps[j]? = some x) (he : ps[k]? = some x) : idx ps x = k := by
  have : ps.findIdx? (fun p => decide (p = x)) = some k := by
    rw [List.findIdx?_eq_some_iff_getElem]
    refine ⟨hk, by simpa [List.getElem?_eq_getElem hk] using he, fun j hj => ?_⟩
    have := hn j hj
    simpa [List.getElem?_eq_getElem (show j < ps.length by omega)] using this
  simp [idx, this]
theorem idx_miss {ps : List (Option Nat)} {x : Option Nat} (hn : ∀ j, j < ps.length → ¬ ps[j]? = some x) : idx ps x = -1 := by
  have : ps.findIdx? (fun p => decide (p = x)) = none := by
    rw [List.findIdx?_eq_none_iff]
    intro p hp
    obtain ⟨j, hj, rfl⟩ := List.getElem_of_mem hp
    have := hn j hj
    simpa [List.getElem?_eq_getElem hj] using this
  simp [idx, this]
end Go.Proofs.YtphhdmopfmelbaaGreat

/-
  A made world of records (of int): the struct of three lists, and what stands in memory, by numbers. No walk.
-/
namespace Go.Proofs.YtphhdmopfmelbaaGreat
open Go.RowKit Go.Proofs.YtphhdmopfmelbaaGreatW.PrintWords
set_option linter.unusedVariables false
set_option linter.unusedSimpArgs false

abbrev TPR : Nat := 143
abbrev TPX : Nat := 116
/-- The made world stands at m (of type TM): its records rs, their first infos fs, the SCX-records xs. -/
structure MadeAt (TM : Nat) (w : World) (B m : Nat) (rs fs xs : List Nat) (v1 v2 v3 : Value) : Prop where
  blk : Blk w m TM [v1, v2, v3]
  o1 : w.ownsRow B TPR 1 v1 rs.length (rs.map fun b => pv (some b))
  o2 : w.ownsRow B TPX 1 v2 fs.length (fs.map fun b => pv (some b))
  o3 : w.ownsRow B TPX 1 v3 xs.length (xs.map fun b => pv (some b))
  ne : ∀ k, v2.ownBlock = some k → v3.ownBlock ≠ some k
/-- The record of a number. -/
def rp (rs : List Nat) (n : Int) : Option Nat := if n < 0 then none else rs[n.toNat]?

section
variable {TM : Nat}
theorem MadeAt.fr {w w' : World} {B m : Nat} {rs fs xs : List Nat} {v1 v2 v3 : Value} (h : MadeAt TM w B m rs fs xs v1 v2 v3) {S : Nat → Prop} (hf : Fr w w' S)
    (h0 : ¬ S m) (h1 : ∀ k, v1.ownBlock = some k ∨ v2.ownBlock = some k ∨ v3.ownBlock = some k → ¬ S k) : MadeAt TM w' B m rs fs xs v1 v2 v3 :=
  ⟨hf.blk h.blk h0, owns_fr h.o1 hf (fun k hk => h1 k (.inl hk)), owns_fr h.o2 hf (fun k hk => h1 k (.inr (.inl hk))), owns_fr h.o3 hf (fun k hk => h1 k (.inr (.inr hk))), h.ne⟩
theorem MadeAt.below {w w' : World} {B m : Nat} {rs fs xs : List Nat} {v1 v2 v3 : Value} (h : MadeAt TM w B m rs fs xs v1 v2 v3) (hb : Below w.heap.size w w') : MadeAt TM w' B m rs fs xs v1 v2 v3 :=
  h.fr (S := fun _ => False) (Fr.of_below0 hb) id (fun _ _ => id)
/-- Blocks of other types have turned. -/
theorem MadeAt.types {w w' : World} {B m : Nat} {rs fs xs : List Nat} {v1 v2 v3 : Value} (h : MadeAt TM w B m rs fs xs v1 v2 v3) {S : Nat → Prop} (hf : Fr w w' S)
    (hS : ∀ k, S k → ∃ T ys, Blk w k T ys ∧ T ≠ TM ∧ T ≠ TPR ∧ T ≠ TPX) : MadeAt TM w' B m rs fs xs v1 v2 v3 := by
  refine h.fr hf (fun hs => ?_) (fun k hk hs => ?_)
  · obtain ⟨T, ys, hb, h1, _⟩ := hS m hs
    exact h1 (hb.inj h.blk).1
  · obtain ⟨T, ys, hb, _, h2, h3⟩ := hS k hs
    rcases hk with hk | hk | hk
    · obtain ⟨c, hc⟩ := owns_typed h.o1 k hk
      exact h2 (hb.inj hc).1
    · obtain ⟨c, hc⟩ := owns_typed h.o2 k hk
      exact h3 (hb.inj hc).1
    · obtain ⟨c, hc⟩ := owns_typed h.o3 k hk
      exact h3 (hb.inj hc).1
/-- A step of a gate that may have turned blocks of other types. -/
theorem MadeAt.step {w w' : World} {B B' m : Nat} {rs fs xs : List Nat} {v1 v2 v3 : Value} (h : MadeAt TM w B m rs fs xs v1 v2 v3) {g : Option Nat} {ks ks' : List Int} {S : Nat → Prop} (hg : GAtI w B' g ks) (hs : StepI B' g w w' ks' S)
    (hM : TM ≠ TT ∧ TM ≠ ti) (hS : ∀ k, S k → ∃ T ys, Blk w k T ys ∧ T ≠ TM ∧ T ≠ TPR ∧ T ≠ TPX) : MadeAt TM w' B m rs fs xs v1 v2 v3 :=
  h.types hs.fr (fun k hk => by
    rcases hk with hk | hk
    · obtain ⟨_, _, T, c, hT, hb⟩ := hg.foot hk
      refine ⟨T, c, hb, ?_, ?_, ?_⟩
      · rintro rfl; rcases hT with h | h
        · exact hM.1 h
        · exact hM.2 h
      · rintro rfl; rcases hT with h | h <;> exact absurd h (by decide)
      · rintro rfl; rcases hT with h | h <;> exact absurd h (by decide)
    · exact hS k hk)
end
/-- An element of an owned row of pointers. -/
theorem owns_at {w : World} {B e : Nat} {v : Value} {l : List Nat} (h : w.ownsRow B e 1 v l.length (l.map fun b => pv (some b))) {j : Nat} (hj : j < l.length) :
    ∃ b c, v = .slice (some ⟨b, 0, none⟩) l.length c ∧ w.cell? ⟨b, j, none⟩ = some (pv l[j]?) := by
  have hn : ¬ v = .slice none 0 0 := fun e => by
    rcases h.2 with ⟨_, h0⟩ | ⟨g, cap, cur, hv, _⟩
    · omega
    · rw [e] at hv; simp at hv
  obtain ⟨b, c, rest, hv, _, _, hb⟩ := owns_blk h hn
  refine ⟨b, c, hv, ?_⟩
  rw [hb.cell, List.getElem?_append_left (by simpa using hj)]
  simp [List.getElem?_eq_getElem hj]

/-! ### one of the three lists grows -/
/-- An append's own block, and the struct's. -/
def Pushed (m : Nat) (v : Value) (k : Nat) : Prop := k = m ∨ some k = v.ownBlock
section
variable {TM : Nat} {w w1 : World} {B m b n e : Nat} {rs fs xs : List Nat} {v1 v2 v3 v' : Value}
theorem pushed_fr {w w1 : World} {m j : Nat} {v v' : Value} (hg : w.grownBy w1 v.ownBlock) : Fr w (w1.setCell ⟨m, j, none⟩ v') (Pushed m v) :=
  ((Fr.of_grown hg).mono (fun _ _ h => .inr h)).setCell _ _ (fun _ => .inl rfl)
/-- By types: what is none of TM and e stays. -/
theorem pushed_types {w : World} {m TM e n B : Nat} {v : Value} {us ms : List Value} (hm : Blk w m TM ms) (ho : w.ownsRow B e 1 v n us) {k : Nat} (hk : Pushed m v k) : ∃ T ys, Blk w k T ys ∧ (T = TM ∨ T = e) := by
  rcases hk with rfl | hk
  · exact ⟨_, _, hm, .inl rfl⟩
  · obtain ⟨c, hc⟩ := owns_typed ho k hk.symm
    exact ⟨_, _, hc, .inr rfl⟩
theorem owns_store {w : World} {B e n m j T : Nat} {v u : Value} {us ms : List Value} (h : w.ownsRow B e 1 v n us) (hm : Blk w m T ms) (hne : e ≠ T) : (w.setCell ⟨m, j, none⟩ u).ownsRow B e 1 v n us :=
  owns_fr h ((Fr.refl w (fun k => k = m)).setCell _ _ (fun _ => rfl)) (fun k hk e2 => by
    subst e2
    obtain ⟨c, hc⟩ := owns_typed h _ hk
    exact hne (hc.inj hm).1)
theorem owns_grown {w w1 : World} {B B' e e' n n' : Nat} {v u : Value} {us ys : List Value} (h : w.ownsRow B e 1 v n us) (hu : w.ownsRow B' e' 1 u n' ys) (hg : w.grownBy w1 u.ownBlock) (hne : e ≠ e') : w1.ownsRow B e 1 v n us :=
  owns_fr h (Fr.of_grown hg) (fun k hk e2 => by
    obtain ⟨c, hc⟩ := owns_typed h k hk
    obtain ⟨d, hd⟩ := owns_typed hu k e2.symm
    exact hne (hc.inj hd).1)
theorem MadeAt.push1 (h : MadeAt TM w B m rs fs xs v1 v2 v3) (hT : TM ≠ TPR ∧ TM ≠ TPX) (hg : w.grownBy w1 v1.ownBlock) (ho : w1.ownsRow B TPR 1 v' (rs.length + 1) ((rs.map fun b => pv (some b)) ++ [pv (some b)])) :
    MadeAt TM (w1.setCell ⟨m, 0, none⟩ v') B m (rs ++ [b]) fs xs v' v2 v3 := by
  have hm1 : Blk w1 m TM [v1, v2, v3] := (Fr.of_grown hg).blk h.blk (fun e => by
    obtain ⟨c, hc⟩ := owns_typed h.o1 m e.symm
    exact hT.1 (h.blk.inj hc).1)
  exact ⟨hm1.set 0 v', by simpa using owns_store ho hm1 hT.1.symm, owns_store (owns_grown h.o2 h.o1 hg (by decide)) hm1 hT.2.symm, owns_store (owns_grown h.o3 h.o1 hg (by decide)) hm1 hT.2.symm, h.ne⟩
theorem MadeAt.push2 (h : MadeAt TM w B m rs fs xs v1 v2 v3) (hT : TM ≠ TPR ∧ TM ≠ TPX) (hg : w.grownBy w1 v2.ownBlock) (ho : w1.ownsRow B TPX 1 v' (fs.length + 1) ((fs.map fun b => pv (some b)) ++ [pv (some b)]))
    (hat : v'.ownBlock = v2.ownBlock ∨ ∃ b, v'.ownBlock = some b ∧ w.heap.size ≤ b) : MadeAt TM (w1.setCell ⟨m, 1, none⟩ v') B m rs (fs ++ [b]) xs v1 v' v3 := by
  have hm1 : Blk w1 m TM [v1, v2, v3] := (Fr.of_grown hg).blk h.blk (fun e => by
    obtain ⟨c, hc⟩ := owns_typed h.o2 m e.symm
    exact hT.2 (h.blk.inj hc).1)
  refine ⟨hm1.set 1 v', owns_store (owns_grown h.o1 h.o2 hg (by decide)) hm1 hT.1.symm, by simpa using owns_store ho hm1 hT.2.symm, owns_store (owns_fr h.o3 (Fr.of_grown hg) (fun k hk e => h.ne k e.symm hk)) hm1 hT.2.symm, fun k hk hk3 => ?_⟩
  rcases hat with hat | ⟨c, hc, hle⟩
  · exact h.ne k (hat ▸ hk) hk3
  · have := (World.ownsRow.lt h.o3 k hk3).2
    rw [hc] at hk
    cases hk
    omega
theorem MadeAt.push3 (h : MadeAt TM w B m rs fs xs v1 v2 v3) (hT : TM ≠ TPR ∧ TM ≠ TPX) (hg : w.grownBy w1 v3.ownBlock) (ho : w1.ownsRow B TPX 1 v' (xs.length + 1) ((xs.map fun b => pv (some b)) ++ [pv (some b)]))
    (hat : v'.ownBlock = v3.ownBlock ∨ ∃ b, v'.ownBlock = some b ∧ w.heap.size ≤ b) : MadeAt TM (w1.setCell ⟨m, 2, none⟩ v') B m rs fs (xs ++ [b]) v1 v2 v' := by
  have hm1 : Blk w1 m TM [v1, v2, v3] := (Fr.of_grown hg).blk h.blk (fun e => by
    obtain ⟨c, hc⟩ := owns_typed h.o3 m e.symm
    exact hT.2 (h.blk.inj hc).1)
  refine ⟨hm1.set 2 v', owns_store (owns_grown h.o1 h.o3 hg (by decide)) hm1 hT.1.symm, owns_store (owns_fr h.o2 (Fr.of_grown hg) (fun k hk e => h.ne k hk e.symm)) hm1 hT.2.symm, by simpa using owns_store ho hm1 hT.2.symm, fun k hk hk3 => ?_⟩
  rcases hat with hat | ⟨c, hc, hle⟩
  · exact h.ne k hk (hat ▸ hk3)
  · have := (World.ownsRow.lt h.o2 k hk).2
    rw [hc] at hk3
    cases hk3
    omega
end
/-- What stands in memory, by numbers: of record i the fields F i, the info I i, the mark M i; of SCX-record i what P i tells. -/
structure Stage (w : World) (B : Nat) (R : Nat → Option RecO) (X : Nat → Option ScxO) (rs fs xs : List Nat) (F : Nat → List (Option Nat)) (I : Nat → Option Nat) (M : Nat → Bool) (P : Nat → ScxO → Prop) : Prop where
  rep : Repint w R X
  ndr : rs.Nodup
  ndx : (fs ++ xs).Nodup
  len : fs.length = rs.length
  r : ∀ (i b : Nat), rs[i]? = some b → ∃ fb, R b = some ⟨[.int .i64 (i : Int)], fb, F i, I i, M i⟩ ∧ B ≤ fb
  x : ∀ (i b : Nat), xs[i]? = some b → ∃ s, X b = some s ∧ P i s
  f : ∀ b, b ∈ fs → (X b).isSome
  lo : ∀ b, b ∈ rs ++ (fs ++ xs) → B ≤ b

theorem nodup_get {l : List Nat} (h : l.Nodup) {i j b : Nat} (hi : l[i]? = some b) (hj : l[j]? = some b) : i = j := by
  obtain ⟨h1, e1⟩ := List.getElem?_eq_some_iff.1 hi
  obtain ⟨h2, e2⟩ := List.getElem?_eq_some_iff.1 hj
  exact (List.getElem_inj h).1 (e1.trans e2.symm)
theorem get_append_one {α : Type} {l : List α} {a b : α} {i : Nat} (h : (l ++ [a])[i]? = some b) : l[i]? = some b ∨ (i = l.length ∧ a = b) := by
  rcases Nat.lt_or_ge i l.length with hi | hi
  · rw [List.getElem?_append_left hi] at h; exact .inl h
  · rw [List.getElem?_append_right hi] at h
    have : i - l.length = 0 := by
      rcases Nat.eq_zero_or_pos (i - l.length) with h0 | h0
      · exact h0
      · rw [List.getElem?_eq_none (by simp; omega)] at h; cases h
    rw [this] at h
    exact .inr ⟨by omega, by simpa using h⟩

section
variable {w w' : World} {B B' : Nat} {R : Nat → Option RecO} {X : Nat → Option ScxO} {rs fs xs : List Nat} {F : Nat → List (Option Nat)} {I : Nat → Option Nat} {M : Nat → Bool} {P : Nat → ScxO → Prop}
theorem Stage.rep' (h : Stage w B R X rs fs xs F I M P) (hr : Repint w' R X) : Stage w' B R X rs fs xs F I M P := ⟨hr, h.ndr, h.ndx, h.len, h.r, h.x, h.f, h.lo⟩
theorem Stage.below (h : Stage w B R X rs fs xs F I M P) (hb : Below w.heap.size w w') : Stage w' B R X rs fs xs F I M P := h.rep' (h.rep.below hb)
theorem Stage.cong (h : Stage w B R X rs fs xs F I M P) {F' : Nat → List (Option Nat)} {I' : Nat → Option Nat} {M' : Nat → Bool} {P' : Nat → ScxO → Prop} (h1 : ∀ i, i < rs.length → F i = F' i) (h2 : ∀ i, i < rs.length → I i = I' i) (h3 : ∀ i, i < rs.length → M i = M' i) (h4 : ∀ i s, i < xs.length → P i s → P' i s) :
    Stage w B R X rs fs xs F' I' M' P' :=
  ⟨h.rep, h.ndr, h.ndx, h.len, fun i b hb => by
    have hl := (List.getElem?_eq_some_iff.1 hb).1
    rw [← h1 i hl, ← h2 i hl, ← h3 i hl]; exact h.r i b hb, fun i b hb => by
    obtain ⟨s, hs, hp⟩ := h.x i b hb
    exact ⟨s, hs, h4 i s (List.getElem?_eq_some_iff.1 hb).1 hp⟩, h.f, h.lo⟩
theorem Stage.okR (h : Stage w B R X rs fs xs F I M P) (n : Int) : Ok R (rp rs n) := fun b e => by
  unfold rp at e
  split at e
  · cases e
  · obtain ⟨fb, hfb, _⟩ := h.r _ b e
    simp [hfb]
theorem Stage.okX (h : Stage w B R X rs fs xs F I M P) (n : Nat) : Ok X xs[n]? := fun b e => by
  obtain ⟨s, hs, _⟩ := h.x n b e
  simp [hs]
theorem Stage.okF (h : Stage w B R X rs fs xs F I M P) (n : Nat) : Ok X fs[n]? := fun b e => h.f b (List.mem_of_getElem? e)
/-- A new record. -/
theorem Stage.addRec (h : Stage w B R X rs fs xs F I M P) (hbelow : Below w.heap.size w w') {b fb xb : Nat} {ps : List (Option Nat)} (hb : w.heap.size ≤ b) (hfb : w.heap.size ≤ fb) (hxb : w.heap.size ≤ xb) (hB : B ≤ w.heap.size)
    (hrep : Repint w' (upd R b ⟨[.int .i64 (rs.length : Int)], fb, ps, some xb, false⟩) (upd X xb firstO)) (hF : F rs.length = ps) (hI : I rs.length = some xb) (hM : M rs.length = false) :
    Stage w' B (upd R b ⟨[.int .i64 (rs.length : Int)], fb, ps, some xb, false⟩) (upd X xb firstO) (rs ++ [b]) (fs ++ [xb]) xs F I M P := by
  have hr1 : ∀ c ∈ rs, c < w.heap.size := fun c hc => by
    obtain ⟨i, hi⟩ := List.getElem?_of_mem hc
    obtain ⟨_, hfb, _⟩ := h.r i c hi
    exact (h.rep.recs _ _ hfb).1.lt
  have hx1 : ∀ c, (X c).isSome → c < w.heap.size := fun c hc => by
    obtain ⟨s, hs⟩ := Option.isSome_iff_exists.1 hc
    exact (h.rep.scx _ _ hs).lt
  have hx2 : ∀ c ∈ fs ++ xs, c < w.heap.size := fun c hc => by
    rcases List.mem_append.1 hc with hc | hc
    · exact hx1 c (h.f c hc)
    · obtain ⟨i, hi⟩ := List.getElem?_of_mem hc
      obtain ⟨s, hs, _⟩ := h.x i c hi
      exact (h.rep.scx _ _ hs).lt
  refine ⟨hrep, ?_, ?_, by simp [h.len], fun i c hc => ?_, fun i c hc => ?_, fun c hc => ?_, fun c hc => ?_⟩
  · rw [List.nodup_append]
    exact ⟨h.ndr, by simp, fun a ha c hc => by simp at hc; have := hr1 a ha; omega⟩
  · have hp : ((fs ++ xs) ++ [xb]).Nodup := by
      rw [List.nodup_append]
      exact ⟨h.ndx, by simp, fun a ha c hc => by simp at hc; have := hx2 a ha; omega⟩
    have : ((fs ++ [xb]) ++ xs).Perm ((fs ++ xs) ++ [xb]) := by
      rw [List.append_assoc, List.append_assoc]
      exact List.Perm.append_left fs List.perm_append_comm
    exact this.nodup_iff.2 hp
  · rcases get_append_one hc with hc | ⟨rfl, rfl⟩
    · obtain ⟨fb', h1, h2⟩ := h.r i c hc
      refine ⟨fb', ?_, h2⟩
      rw [upd_ne _ _ (by have := hr1 c (List.mem_of_getElem? hc); omega)]
      exact h1
    · rw [hF, hI, hM]
      exact ⟨fb, upd_self _ _ _, by omega⟩
  · obtain ⟨s, hs, hp⟩ := h.x i c hc
    exact ⟨s, by rw [upd_ne _ _ (by have := (h.rep.scx _ _ hs).lt; omega)]; exact hs, hp⟩
  · rcases List.mem_append.1 hc with hc | hc
    · rw [upd_ne _ _ (by have := hx1 c (h.f c hc); omega)]; exact h.f c hc
    · simp at hc; subst hc; simp [upd]
  · simp only [List.mem_append, List.mem_singleton] at hc
    rcases hc with (hc | hc) | (hc | hc) | hc
    · exact h.lo c (by simp [hc])
    · omega
    · exact h.lo c (by simp [hc])
    · omega
    · exact h.lo c (by simp [hc])
/-- A new SCX-record. -/
theorem Stage.addScx (h : Stage w B R X rs fs xs F I M P) (hbelow : Below w.heap.size w w') {b : Nat} {s : ScxO} (hb : w.heap.size ≤ b) (hB : B ≤ w.heap.size) (hrep : Repint w' R (upd X b s)) (hP : P xs.length s) :
    Stage w' B R (upd X b s) rs fs (xs ++ [b]) F I M P := by
  have hx1 : ∀ c, (X c).isSome → c < w.heap.size := fun c hc => by
    obtain ⟨s, hs⟩ := Option.isSome_iff_exists.1 hc
    exact (h.rep.scx _ _ hs).lt
  have hx2 : ∀ c ∈ fs ++ xs, c < w.heap.size := fun c hc => by
    rcases List.mem_append.1 hc with hc | hc
    · exact hx1 c (h.f c hc)
    · obtain ⟨i, hi⟩ := List.getElem?_of_mem hc
      obtain ⟨s, hs, _⟩ := h.x i c hi
      exact (h.rep.scx _ _ hs).lt
  refine ⟨hrep, h.ndr, ?_, h.len, h.r, fun i c hc => ?_, fun c hc => ?_, fun c hc => ?_⟩
  · rw [← List.append_assoc, List.nodup_append]
    exact ⟨h.ndx, by simp, fun a ha c hc => by simp at hc; have := hx2 a ha; omega⟩
  · rcases get_append_one hc with hc | ⟨rfl, rfl⟩
    · obtain ⟨s', hs, hp⟩ := h.x i c hc
      exact ⟨s', by rw [upd_ne _ _ (by have := (h.rep.scx _ _ hs).lt; omega)]; exact hs, hp⟩
    · exact ⟨s, upd_self _ _ _, hP⟩
  · rw [upd_ne _ _ (by have := hx1 c (h.f c hc); omega)]; exact h.f c hc
  · simp only [List.mem_append, List.mem_singleton] at hc
    rcases hc with hc | hc | hc | hc
    · exact h.lo c (by simp [hc])
    · exact h.lo c (by simp [hc])
    · exact h.lo c (by simp [hc])
    · omega
/-- Record i has turned. -/
theorem Stage.setRec (h : Stage w B R X rs fs xs F I M P) {i b fb : Nat} (hi : rs[i]? = some b) (ho : R b = some ⟨[.int .i64 (i : Int)], fb, F i, I i, M i⟩) {fl : List (Option Nat)} {inf : Option Nat} {mk : Bool}
    (hrep : Repint w' (upd R b ⟨[.int .i64 (i : Int)], fb, fl, inf, mk⟩) X) :
    Stage w' B (upd R b ⟨[.int .i64 (i : Int)], fb, fl, inf, mk⟩) X rs fs xs (fun k => if k = i then fl else F k) (fun k => if k = i then inf else I k) (fun k => if k = i then mk else M k) P := by
  refine ⟨hrep, h.ndr, h.ndx, h.len, fun k c hc => ?_, h.x, h.f, h.lo⟩
  by_cases e : k = i
  · subst e
    have : c = b := by rw [hi] at hc; exact (Option.some.inj hc).symm
    subst this
    obtain ⟨fb', h1, h2⟩ := h.r k c hi
    rw [ho] at h1
    have : fb = fb' := by simpa using congrArg RecO.fb (Option.some.inj h1)
    subst this
    exact ⟨fb, by simp [upd], h2⟩
  · obtain ⟨fb', h1, h2⟩ := h.r k c hc
    refine ⟨fb', ?_, h2⟩
    have : c ≠ b := fun e2 => by subst e2; exact e (nodup_get h.ndr hc hi)
    rw [upd_ne _ _ this]
    simp [e, h1]
/-- SCX-record i has turned. -/
theorem Stage.setScx (h : Stage w B R X rs fs xs F I M P) {i b : Nat} (hi : xs[i]? = some b) {s : ScxO} (hrep : Repint w' R (upd X b s)) {P' : Nat → ScxO → Prop} (hP : P' i s) (hP' : ∀ k s, k ≠ i → P k s → P' k s) :
    Stage w' B R (upd X b s) rs fs xs F I M P' := by
  have hnd := List.nodup_append.1 h.ndx
  refine ⟨hrep, h.ndr, h.ndx, h.len, h.r, fun k c hc => ?_, fun c hc => ?_, h.lo⟩
  · by_cases e : k = i
    · subst e
      have : c = b := by rw [hi] at hc; exact (Option.some.inj hc).symm
      subst this
      exact ⟨s, upd_self _ _ _, hP⟩
    · obtain ⟨s', h1, h2⟩ := h.x k c hc
      refine ⟨s', ?_, hP' k s' e h2⟩
      rw [upd_ne _ _ (fun e2 => by subst e2; exact e (nodup_get hnd.2.1 hc hi))]
      exact h1
  · have := h.f c hc
    unfold upd
    split <;> simp_all
end
end Go.Proofs.YtphhdmopfmelbaaGreat

/- help: the made world of records; rec; plan. -/
namespace Go.Proofs.YtphhdmopfmelbaaGreat
open Go.RowKit Go.Proofs.YtphhdmopfmelbaaGreatW.PrintWords
set_option linter.unusedVariables false
set_option linter.unusedSimpArgs false

abbrev THM : Nat := 120
set_option maxHeartbeats 400000 in
theorem help_rec (w : World) (B m : Nat) (rs fs xs : List Nat) (v1 v2 v3 : Value) (h : MadeAt THM w B m rs fs xs v1 v2 v3) (n : Int) (n0 : -1 ≤ n) (n1 : n < rs.length) :
    Calls Tryz.prog 79 #[.pointer (some ⟨m, 0, none⟩), .int .i64 n] w fun e w' => e = .returned (pv (rp rs n)) ∧ w = w' := by
  by_cases hn : n < 0
  · rw [show rp rs n = none by simp [rp, hn]]
    clear h
    go_enter Tryz.func79, Tryz.ntmps79
    go_wp2
    go_ret
    exact ⟨rfl, rfl⟩
  · rw [show rp rs n = rs[n.toNat]? by simp [rp, hn]]
    obtain ⟨b, c, hv, hc⟩ := owns_at h.o1 (j := n.toNat) (by omega)
    have hm : w.cell? ⟨m, 0, none⟩ = some v1 := by rw [h.blk.cell]; rfl
    rw [hv] at hm
    generalize rs[n.toNat]? = p at *
    clear h hv
    go_enter Tryz.func79, Tryz.ntmps79
    go_wp2
    go_ret
    exact ⟨rfl, rfl⟩

theorem pinfo_rec : (Tryz.prog.info? 143).map (fun i => (i.zero, i.size, i.bytes)) = some (some (.pointer none), 1, 8) := by kernel_rfl
theorem pinfo_scx : (Tryz.prog.info? 116).map (fun i => (i.zero, i.size, i.bytes)) = some (some (.pointer none), 1, 8) := by kernel_rfl

/-- After j records of V. -/
def PlanInv (w0 : World) (rs fs : List Nat) (V : List Int) (j : Nat) (v i : Value) (wr : World) : Prop :=
  Below w0.heap.size w0 wr ∧ wr.ownsRow w0.heap.size TPR 1 v j ((V.map fun n => pv rs[n.toNat]?).take j) ∧ wr.ownsRow w0.heap.size TPX 1 i j ((V.map fun n => pv fs[n.toNat]?).take j)
theorem take_succ_map {α β : Type} (f : α → β) (l : List α) (j : Nat) (hj : j < l.length) : (l.map f).take (j + 1) = (l.map f).take j ++ [f l[j]] := by
  rw [List.take_succ_eq_append_getElem (by simpa using hj)]; simp

set_option maxHeartbeats 1000000 in
set_option maxRecDepth 100000 in
theorem help_plan (w : World) (B m : Nat) (rs fs xs : List Nat) (v1 v2 v3 : Value) (h : MadeAt THM w B m rs fs xs v1 v2 v3) (hfs : fs.length = rs.length) (R : Nat → Option RecO) (X : Nat → Option ScxO) (hR : Repint w R X)
    (hrs : ∀ b ∈ rs, (R b).isSome) (hfx : ∀ b ∈ fs, (X b).isSome)
    (AV : Option Addr) (cV : Nat) (V : List Int) (AF : Option Addr) (nF cF : Nat) (Fin : List Value) (vI : Value) (at_ fld old new : Int)
    (hV : Row1 w AV V.length (V.map (Value.int .i64))) (hVb : ∀ n ∈ V, 0 ≤ n ∧ n < rs.length) (hVl : V.length ≤ 1000000) (hFA : AF = none → nF = 0 ∧ cF = 0) (hF : Row1 w AF nF Fin) (hF1 : ∀ u ∈ Fin, u.oneCell' = true) (hFl : nF ≤ 1000000)
    (ho : -1 ≤ old ∧ old < rs.length) (hn : -1 ≤ new ∧ new < rs.length) (hvI : vI.oneCell' = true) :
    Calls Tryz.prog 78 #[.pointer (some ⟨m, 0, none⟩), .agg #[.slice AV V.length cV, vI, .slice AF nF cF, .int .i64 at_, .int .i64 fld, .int .i64 old, .int .i64 new]] w fun e w' =>
      ∃ b u1 u2 u3, e = .returned (pv (some b)) ∧ w.heap.size ≤ b ∧ Below w.heap.size w w' ∧ Repint w' R (upd X b ⟨u1, u2, u3, at_, fld, rp rs old, rp rs new, 0, false⟩) ∧
        w'.ownsRow w.heap.size TPR 1 u1 V.length (V.map fun n => pv rs[n.toNat]?) ∧ w'.ownsRow w.heap.size TPX 1 u2 V.length (V.map fun n => pv fs[n.toNat]?) ∧ w'.ownsRow w.heap.size 4 1 u3 nF Fin := by
  refine calls_hide fun Q HQ => ?_
  have HQ' := Lib.hid HQ
  have HM := Lib.hid h
  have HR := Lib.hid hR
  have HV := Lib.hid hV
  have HVb := Lib.hid hVb
  have HF := Lib.hid hF
  have HFl := Lib.hid hfs
  obtain ⟨o0, o1⟩ := ho
  obtain ⟨n0, n1⟩ := hn
  clear HQ h hR hV hVb hF hfs
  go_enter Tryz.func78, Tryz.ntmps78
  go_wp2
  generalize hW : w.alloc (.cells #[.slice AV V.length cV, vI, .slice AF nF cF, .int .i64 at_, .int .i64 fld, .int .i64 old, .int .i64 new] 123) = w0
  have HB0 := Lib.hid (show Below w.heap.size w w0 by rw [← hW]; exact (Below.refl w.heap.size w).alloc (Nat.le_refl _) _)
  have HX0 := Lib.hid (show Blk w0 w.heap.size 123 [.slice AV V.length cV, vI, .slice AF nF cF, .int .i64 at_, .int .i64 fld, .int .i64 old, .int .i64 new] by rw [← hW]; exact Blk.new w _ _)
  clear hW
  have HM0 := Lib.hid (HM.out.below HB0.out)
  have HR0 := Lib.hid (HR.out.below HB0.out)
  have HV0 := Lib.hid (HV.out.below HB0.out)
  have HF0 := Lib.hid (HF.out.below HB0.out)
  clear HM HR HV HF
  go_loopw [5, 6, 12] (fun v i k wr => ∃ j : Nat, j ≤ V.length ∧ k = .int .i64 j ∧ PlanInv w0 rs fs V j v i wr) (fun _ _ k _ => V.length - (intOf k).toNat)
  case atStart => exact ⟨0, Nat.zero_le _, rfl, Below.refl _ _, World.ownsRow_nil _ _ _ _, World.ownsRow_nil _ _ _ _⟩
  case round =>
    obtain ⟨j, hj, rfl, hI⟩ := hrel
    have HI := Lib.hid hI
    clear hI
    by_cases hlt : j < V.length
    · have hx0 : (V.map (Value.int .i64))[j]? = some (.int .i64 V[j]) := by simp [List.getElem?_eq_getElem hlt]
      obtain ⟨ad, hA, hc0⟩ := HV0.out.at_ hx0
      have hc : wr.cell? (ad.add j) = some (.int .i64 V[j]) := pw_cell_below HI.out.1 hc0
      have hb := HVb.out V[j] (List.getElem_mem hlt)
      have HTr := Lib.hid (take_succ_map (fun n => pv rs[n.toNat]?) V j hlt)
      have HTf := Lib.hid (take_succ_map (fun n => pv fs[n.toNat]?) V j hlt)
      generalize V[j] = x at *
      clear hx0 hc0
      subst hA
      obtain ⟨b1, c1, e1, g1⟩ := owns_at HM0.out.o1 (j := x.toNat) (by omega)
      obtain ⟨b2, c2, e2, g2⟩ := owns_at HM0.out.o2 (j := x.toNat) (by rw [HFl.out]; omega)
      have HM1 := Lib.hid (HM0.out.below HI.out.1)
      have hm1 : wr.cell? ⟨m, 0, none⟩ = some (.slice (some ⟨b1, 0, none⟩) rs.length c1) := by rw [HM1.out.blk.cell, ← e1]; rfl
      have hr1 : wr.cell? ⟨b1, x.toNat, none⟩ = some (pv rs[x.toNat]?) := pw_cell_below HI.out.1 g1
      have hx0 : 0 ≤ x := hb.1
      have hx1 : x < rs.length := hb.2
      have E1 := Lib.hid e1
      have E2 := Lib.hid e2
      have G1 := Lib.hid g1
      have G2 := Lib.hid g2
      have HFl2 := Lib.hid HFl.out
      have hxf : x < fs.length := by rw [HFl.out]; exact hx1
      clear e1 e2 g1 g2 hb HVb HV0 HF0 HR0
      generalize hp1 : rs[x.toNat]? = p1 at *
      generalize hp2 : fs[x.toNat]? = p2 at *
      clear hp1 hp2
      go_wp2_with (at_builtin; refine print_append_cells w0.heap.size rfl _ _ 117 143 (.pointer none) 1 8 rfl Tryz.underlying117 pinfo_rec rfl (by decide) (by decide) u5 j _ [pv p1] rfl rfl rfl (by simp [Value.oneCell']) HI.out.2.1 HI.out.1 HI.out.1.size (by omega) ?_)
      intro a1 w1 hown1 hb1 hg1 hat1
      have HO2 := Lib.hid (owns_fr HI.out.2.2 (Fr.of_grown hg1) (fun k hk e => by
        obtain ⟨ys, hy⟩ := owns_typed HI.out.2.2 k hk
        obtain ⟨zs, hz⟩ := owns_typed HI.out.2.1 k e.symm
        exact absurd (hy.inj hz).1 (by decide)))
      have HO1 := Lib.hid hown1
      have HB1 := Lib.hid hb1
      have HM2 := Lib.hid (HM0.out.below hb1)
      have hm2 : w1.cell? ⟨m, 1, none⟩ = some (.slice (some ⟨b2, 0, none⟩) fs.length c2) := by rw [HM2.out.blk.cell, ← E2.out]; rfl
      have hr2 : w1.cell? ⟨b2, x.toNat, none⟩ = some (pv p2) := pw_cell_below hb1 G2.out
      clear hown1 hb1 hg1 hat1 hm1 hr1 hc HM1 HM2 G1 G2 E1 E2
      go_wp2_with (at_builtin; refine print_append_cells w0.heap.size rfl _ _ 118 116 (.pointer none) 1 8 rfl Tryz.underlying118 pinfo_scx rfl (by decide) (by decide) u6 j _ [pv p2] rfl rfl rfl (by simp [Value.oneCell']) HO2.out HB1.out HB1.out.size (by omega) ?_)
      intro a2 w2 hown2 hb2 hg2 hat2
      have HN : PlanInv w0 rs fs V (j + 1) a1 a2 w2 := ⟨hb2, by
        rw [HTr.out]
        exact owns_fr HO1.out (Fr.of_grown hg2) (fun k hk e => by
          obtain ⟨ys, hy⟩ := owns_typed HO1.out k hk
          obtain ⟨zs, hz⟩ := owns_typed HO2.out k e.symm
          exact absurd (hy.inj hz).1 (by decide)), by rw [HTf.out]; exact hown2⟩
      have HN1 := Lib.hid HN
      clear HN hown2 hb2 hg2 hat2 hm2 hr2 HO1 HO2 HB1 HTr HTf
      go_wp2
      go_roundw
      case rel => exact ⟨j + 1, by omega, by go_num, HN1.out⟩
      case measure => simp [intOf]; omega
    · obtain rfl : j = V.length := by omega
      have HXr := Lib.hid (HX0.out.below HI.out.1 HX0.out.lt)
      have k2 : wr.cell? ⟨w.heap.size, 2, none⟩ = some (.slice AF nF cF) := by rw [HXr.out.cell]; rfl
      have k3 : wr.cell? ⟨w.heap.size, 3, none⟩ = some (.int .i64 at_) := by rw [HXr.out.cell]; rfl
      have k4 : wr.cell? ⟨w.heap.size, 4, none⟩ = some (.int .i64 fld) := by rw [HXr.out.cell]; rfl
      have k5 : wr.cell? ⟨w.heap.size, 5, none⟩ = some (.int .i64 old) := by rw [HXr.out.cell]; rfl
      have k6 : wr.cell? ⟨w.heap.size, 6, none⟩ = some (.int .i64 new) := by rw [HXr.out.cell]; rfl
      have HMr := Lib.hid (HM0.out.below HI.out.1)
      have HRr := Lib.hid (HR0.out.below HI.out.1)
      have HFr := Lib.hid (HF0.out.below HI.out.1)
      obtain ⟨A5, c5, e5, q5, l5⟩ := owns_slice HI.out.2.1
      obtain ⟨A6, c6, e6, q6, l6⟩ := owns_slice HI.out.2.2
      have Q5 := Lib.hid q5
      have Q6 := Lib.hid q6
      clear q5 q6 HV0 HF0 HR0 HM0 HX0 HXr HVb
      subst e5 e6
      have HMd := Lib.hid (HMr.out.fr (w' := wr.drew) (S := fun _ => False) (Fr.refl wr _).drew id (fun _ _ => id))
      have HRC := Lib.hid (fun n n0 n1 => calls_swap (help_rec wr.drew B m rs fs xs v1 v2 v3 HMd.out n n0 n1))
      have hQ5 : A5 = none → V.length = 0 ∧ c5 = 0 := fun e => by
        subst e
        rcases HI.out.2.1.2 with ⟨hv, h0⟩ | ⟨_, _, _, hv, _⟩
        · exact ⟨h0, by simpa using congrArg (fun v => match v with | .slice _ _ c => c | _ => 0) hv⟩
        · simp at hv
      have hQ6 : A6 = none → V.length = 0 ∧ c6 = 0 := fun e => by
        subst e
        rcases HI.out.2.2.2 with ⟨hv, h0⟩ | ⟨_, _, _, hv, _⟩
        · exact ⟨h0, by simpa using congrArg (fun v => match v with | .slice _ _ c => c | _ => 0) hv⟩
        · simp at hv
      have HNS := Lib.hid (newscx_int A5 V.length c5 _ A6 V.length c6 _ AF nF cF _ at_ fld (rp rs old) (rp rs new) R X wr.drew (HRr.out.fr (S := fun _ => False) (Fr.refl wr _).drew (fun _ _ _ => ⟨id, id⟩) (fun _ _ _ => id)) Q5.out Q6.out HFr.out hQ5 hQ6 hFA
        (fun u hu => by obtain ⟨x, _, rfl⟩ := List.mem_map.1 (List.mem_of_mem_take hu); rfl) (fun u hu => by obtain ⟨x, _, rfl⟩ := List.mem_map.1 (List.mem_of_mem_take hu); rfl) hF1 (by omega) (by omega) (by omega))
      have HBr := Lib.hid (HB0.out.trans (HI.out.1.mono HB0.out.size))
      clear hFA hF1 hrs hfx Q5 Q6 hQ5 hQ6 HMr HRr HFr HMd HI
      go_wp2_with fail
      refine wp_region_still_tail 16 (by kernel_rfl) (by kernel_rfl) ?_
      simp only [List.take_succ_cons, List.take_zero, List.drop_succ_cons, List.drop_zero]
      iterate 11 still_step
      still_call (HRC.out old o0 o1)
      iterate 3 still_step
      still_call (HRC.out new n0 n1)
      refine wpStill_nil ?_
      change wpList _ _ _ _ _ wr.drew
      go_wp2_with fail
      refine HNS.out.mono ?_
      rintro e w' ⟨b, u1, u2, u3, rfl, hb, hbel, hrep, ho1, ho2, ho3⟩
      have hsz : w.heap.size ≤ wr.drew.heap.size := HBr.out.size
      have hF := Lib.hid (HQ'.out (.returned (pv (some b))) w' ⟨b, u1, u2, u3, rfl, Nat.le_trans hsz hb, HBr.out.drew.trans (hbel.mono hsz), hrep, own_weaken (by simpa [List.take_of_length_le] using ho1) hsz, own_weaken (by simpa [List.take_of_length_le] using ho2) hsz, own_weaken ho3 hsz⟩)
      clear hb hbel hrep ho1 ho2 ho3 hsz HNS HQ' HRC
      go_wp2
      exact hF.out
end Go.Proofs.YtphhdmopfmelbaaGreat

/-
  A world as plain data: what it is as a value, how it reads. No walk.
-/
namespace Go.Proofs.YtphhdmopfmelbaaGreat
open Go.RowKit Go.Proofs.YtphhdmopfmelbaaGreatW.PrintWords
set_option linter.unusedVariables false
set_option linter.unusedSimpArgs false

/-- A world as lists. -/
structure WD where
  fields : List (List Int)
  infos : List Int
  marks : List Bool
  states : List Int
  frozen : List Bool
/-- Its five slices. -/
structure WV where
  A0 : Option Addr
  c0 : Nat
  A1 : Option Addr
  c1 : Nat
  A2 : Option Addr
  c2 : Nat
  A3 : Option Addr
  c3 : Nat
  A4 : Option Addr
  c4 : Nat
abbrev WV.cells (v : WV) (d : WD) : List Value := [.slice v.A0 d.fields.length v.c0, .slice v.A1 d.infos.length v.c1, .slice v.A2 d.marks.length v.c2, .slice v.A3 d.states.length v.c3, .slice v.A4 d.frozen.length v.c4]
abbrev WV.val (v : WV) (d : WD) : Value := .agg #[.slice v.A0 d.fields.length v.c0, .slice v.A1 d.infos.length v.c1, .slice v.A2 d.marks.length v.c2, .slice v.A3 d.states.length v.c3, .slice v.A4 d.frozen.length v.c4]
abbrev KInt := Kd.int .i64
abbrev KRow := Kd.slice 3 (Kd.int .i64)
structure WV.Reads (w : World) (v : WV) (d : WD) : Prop where
  h0 : KRow.C w v.A0 d.fields.length d.fields
  k0 : d.fields.length ≤ v.c0
  h1 : KInt.C w v.A1 d.infos.length d.infos
  k1 : d.infos.length ≤ v.c1
  h2 : Kd.bool.C w v.A2 d.marks.length d.marks
  k2 : d.marks.length ≤ v.c2
  h3 : KInt.C w v.A3 d.states.length d.states
  k3 : d.states.length ≤ v.c3
  h4 : Kd.bool.C w v.A4 d.frozen.length d.frozen
  k4 : d.frozen.length ≤ v.c4
theorem WV.Reads.below {w w' : World} {v : WV} {d : WD} (h : v.Reads w d) (hb : Below w.heap.size w w') : v.Reads w' d :=
  ⟨Kd.C_below h.h0 hb, h.k0, Kd.C_below h.h1 hb, h.k1, Kd.C_below h.h2 hb, h.k2, Kd.C_below h.h3 hb, h.k3, Kd.C_below h.h4 hb, h.k4⟩

/-- Rows of one-cell elements as my own word has it. -/
theorem row1_of_C {α : Type} {enc : α → Value} {h1 : ∀ x, (enc x).oneCell' = true} {w : World} {A : Option Addr} {n : Nat} {xs : List α} (h : (Kd.scalar enc h1).C w A n xs) : Row1 w A n (xs.map enc) := by
  refine ⟨by simpa using h.1, fun hn => ?_⟩
  obtain ⟨ad, e, hc⟩ := h.2.2 hn
  refine ⟨ad, e, fun j u hu => ?_⟩
  rw [List.getElem?_map] at hu
  obtain ⟨x, hx, rfl⟩ := Option.map_eq_some_iff.1 hu
  obtain ⟨c, _, hK, hcell⟩ := hc j x hx
  have hK' : c = [enc x] := hK
  subst hK'
  simpa [Kd.scalar] using hcell 0 _ rfl
theorem int_at {w : World} {A : Option Addr} {n : Nat} {xs : List Int} (h : KInt.C w A n xs) {j : Nat} (hj : j < xs.length) : ∃ ad, A = some ad ∧ w.cell? (ad.add j) = some (.int .i64 xs[j]) :=
  (row1_of_C h).at_ (by simp [List.getElem?_eq_getElem hj])
theorem bool_at {w : World} {A : Option Addr} {n : Nat} {xs : List Bool} (h : Kd.bool.C w A n xs) {j : Nat} (hj : j < xs.length) : ∃ ad, A = some ad ∧ w.cell? (ad.add j) = some (.bool xs[j]) :=
  (row1_of_C h).at_ (by simp [List.getElem?_eq_getElem hj])
theorem row_at {w : World} {A : Option Addr} {n : Nat} {xs : List (List Int)} (h : KRow.C w A n xs) {j : Nat} (hj : j < xs.length) :
    ∃ ad, A = some ad ∧ ∃ A' c', w.cell? (ad.add j) = some (.slice A' xs[j].length c') ∧ xs[j].length ≤ c' ∧ KInt.C w A' xs[j].length xs[j] := by
  obtain ⟨ad, e, hc⟩ := h.2.2 (by have := h.1; omega)
  obtain ⟨c, _, ⟨A', c', hK, hl, hr⟩, hcell⟩ := hc j _ (List.getElem?_eq_getElem hj)
  subst hK
  refine ⟨ad, e, A', c', ?_, hl, hr⟩
  simpa [Kd.slice] using hcell 0 _ rfl
end Go.Proofs.YtphhdmopfmelbaaGreat

/- Numbers and pointers. No walk. -/
namespace Go.Proofs.YtphhdmopfmelbaaGreat
open Go.RowKit Go.Proofs.YtphhdmopfmelbaaGreatW.PrintWords
set_option linter.unusedVariables false
set_option linter.unusedSimpArgs false

/-- The info of a number: below 0 the record's own first one. -/
def ip (fs xs : List Nat) (i n : Int) : Option Nat := if n < 0 then fs[i.toNat]? else xs[n.toNat]?
theorem getD_mem {α : Type} {l : List α} {i : Nat} (h : i < l.length) (x : α) : l.getD i x ∈ l := by
  rw [List.getD_eq_getElem?_getD, List.getElem?_eq_getElem h]; exact List.getElem_mem h
theorem getD_set {α : Type} (l : List α) (i j : Nat) (a x : α) (h : i < l.length) : (l.set i a).getD j x = if j = i then a else l.getD j x := by
  rw [List.getD_eq_getElem?_getD, List.getElem?_set]
  by_cases e : i = j
  · subst e; simp [h]
  · rw [if_neg e, if_neg (fun e2 => e e2.symm), List.getD_eq_getElem?_getD]
/-! ### numbers and pointers -/
theorem rp_inj {rs : List Nat} (hn : rs.Nodup) {m n : Int} (m0 : -1 ≤ m) (m1 : m < rs.length) (n0 : -1 ≤ n) (n1 : n < rs.length) : rp rs m = rp rs n ↔ m = n := by
  refine ⟨fun h => ?_, fun h => by rw [h]⟩
  unfold rp at h
  split at h <;> split at h
  · omega
  · rw [List.getElem?_eq_getElem (by omega)] at h; cases h
  · rw [List.getElem?_eq_getElem (by omega)] at h; cases h
  · rw [List.getElem?_eq_getElem (show n.toNat < rs.length by omega)] at h
    have := nodup_get hn h (List.getElem?_eq_getElem (show n.toNat < rs.length by omega))
    omega
theorem idx_at {l : List Nat} (hn : l.Nodup) {k : Nat} (hk : k < l.length) : idx (l.map some) l[k]? = k := by
  refine idx_hit (by simpa using hk) (fun j hj e => ?_) (by simp [List.getElem?_eq_getElem hk])
  rw [List.getElem?_map, List.getElem?_eq_getElem (show j < l.length by omega), List.getElem?_eq_getElem hk] at e
  have := (List.getElem_inj hn).1 (by simpa using e)
  omega
theorem idx_none {l : List Nat} {x : Option Nat} (h : ∀ b, x = some b → b ∉ l) : idx (l.map some) x = -1 := by
  refine idx_miss (fun j hj e => ?_)
  rw [List.length_map] at hj
  rw [List.getElem?_map, List.getElem?_eq_getElem hj] at e
  simp only [Option.map_some, Option.some.injEq] at e
  exact h _ e.symm (List.getElem_mem hj)
theorem idx_rp {rs : List Nat} (hn : rs.Nodup) {n : Int} (n0 : -1 ≤ n) (n1 : n < rs.length) : idx (rs.map some) (rp rs n) = n := by
  unfold rp
  split
  · rw [idx_none (fun b e => by cases e)]; omega
  · rw [idx_at hn (by omega)]; omega
theorem ip_inj {fs xs : List Nat} (hn : (fs ++ xs).Nodup) {i m n : Int} (i0 : 0 ≤ i) (i1 : i < fs.length) (m0 : -1 ≤ m) (m1 : m < xs.length) (n0 : -1 ≤ n) (n1 : n < xs.length) : ip fs xs i m = ip fs xs i n ↔ m = n := by
  obtain ⟨h1, h2, h3⟩ := List.nodup_append.1 hn
  refine ⟨fun h => ?_, fun h => by rw [h]⟩
  unfold ip at h
  split at h <;> split at h
  · omega
  · rw [List.getElem?_eq_getElem (show i.toNat < fs.length by omega), List.getElem?_eq_getElem (show n.toNat < xs.length by omega)] at h
    exact absurd (Option.some.inj h) (h3 _ (List.getElem_mem _) _ (List.getElem_mem _))
  · rw [List.getElem?_eq_getElem (show i.toNat < fs.length by omega), List.getElem?_eq_getElem (show m.toNat < xs.length by omega)] at h
    exact absurd (Option.some.inj h).symm (h3 _ (List.getElem_mem _) _ (List.getElem_mem _))
  · rw [List.getElem?_eq_getElem (show n.toNat < xs.length by omega)] at h
    have := nodup_get h2 h (List.getElem?_eq_getElem (show n.toNat < xs.length by omega))
    omega
theorem idx_ip {fs xs : List Nat} (hn : (fs ++ xs).Nodup) {i n : Int} (i0 : 0 ≤ i) (i1 : i < fs.length) (n0 : -1 ≤ n) (n1 : n < xs.length) : idx (xs.map some) (ip fs xs i n) = n := by
  obtain ⟨h1, h2, h3⟩ := List.nodup_append.1 hn
  unfold ip
  split
  · rw [idx_none (fun b e hb => ?_)]
    · omega
    · exact h3 b (List.mem_of_getElem? e) b hb rfl
  · rw [idx_at h2 (by omega)]; omega
end Go.Proofs.YtphhdmopfmelbaaGreat

/- help as plain data: Check, one help, the document's helper step by step. No walk. -/
namespace Go.Proofs.YtphhdmopfmelbaaGreat
open Go.RowKit Go.Proofs.YtphhdmopfmelbaaGreatW.PrintWords
set_option linter.unusedVariables false
set_option linter.unusedSimpArgs false

/-- A plan. -/
structure PlanD where
  V : List Int
  infos : List Int
  fin : List Bool
  at_ : Int
  fld : Int
  old : Int
  new : Int
def inH (n lo hi : Int) : Prop := lo ≤ n ∧ n < hi
structure WD.Formed (d : WD) : Prop where
  e1 : d.infos.length = d.fields.length
  e2 : d.marks.length = d.fields.length
  e4 : d.frozen.length = d.states.length
  hF : ∀ r ∈ d.fields, ∀ n ∈ r, inH n (-1) d.fields.length
  hI : ∀ n ∈ d.infos, inH n (-1) d.states.length
  hS : ∀ n ∈ d.states, inH n 0 3
structure PlanD.Fits (p : PlanD) (d : WD) : Prop where
  v0 : 0 < p.V.length
  v1 : p.infos.length = p.V.length
  v2 : p.fin.length = p.V.length
  a : inH p.at_ 0 p.V.length
  o : inH p.old (-1) d.fields.length
  n : inH p.new (-1) d.fields.length
  hV : ∀ n ∈ p.V, inH n 0 d.fields.length
  hI : ∀ n ∈ p.infos, inH n (-1) d.states.length
  f : inH p.fld 0 (d.fields.getD (p.V.getD p.at_.toNat 0).toNat []).length
def BigH (d : WD) (ps : List PlanD) : Prop := d.fields.length > 64 ∨ d.states.length > 64 ∨ (∃ r ∈ d.fields, r.length > 64) ∨ ∃ p ∈ ps, p.V.length > 64
open Classical in
/-- The error of Check. -/
noncomputable def chkH (d : WD) (ps : List PlanD) : Int := if BigH d ps then 2 else if ¬ d.Formed ∨ ¬ ps.length = d.states.length then 3 else if ∀ p ∈ ps, p.Fits d then 0 else 3
theorem chkH_cases (d : WD) (ps : List PlanD) : chkH d ps = 0 ∨ chkH d ps = 2 ∨ chkH d ps = 3 := by
  unfold chkH
  split
  · exact .inr (.inl rfl)
  · split
    · exact .inr (.inr rfl)
    · split
      · exact .inl rfl
      · exact .inr (.inr rfl)
theorem chkH_zero {d : WD} {ps : List PlanD} (h : chkH d ps = 0) : ¬ BigH d ps ∧ d.Formed ∧ ps.length = d.states.length ∧ ∀ p ∈ ps, p.Fits d := by
  unfold chkH at h
  split at h
  · cases h
  · split at h
    · cases h
    · rename_i h1 h2
      split at h
      · rename_i h3
        exact ⟨h1, Classical.not_not.1 fun h4 => h2 (.inl h4), Classical.not_not.1 fun h4 => h2 (.inr h4), h3⟩
      · cases h

/-- The helper freezes the records (r, i) one behind the other: did it get through, the world then, the kinds. -/
def frzH (scx : Int) : WD → List (Int × Int) → Bool × WD × List Int
  | d, [] => (true, d, [])
  | d, (r, i) :: l =>
    if d.infos.getD r.toNat 0 = i then let x := frzH scx { d with infos := d.infos.set r.toNat scx } l; (x.1, x.2.1, 5 :: x.2.2)
    else if d.infos.getD r.toNat 0 = scx then let x := frzH scx d l; (x.1, x.2.1, 5 :: 1 :: x.2.2)
    else (false, d, [5, 1])
/-- The marks. -/
def mrkH : WD → List (Int × Bool) → WD × List Int
  | d, [] => (d, [])
  | d, (r, f) :: l => if f then let x := mrkH { d with marks := d.marks.set r.toNat true } l; (x.1, 2 :: x.2) else mrkH d l
/-- The field. -/
def swgH (d : WD) (p : PlanD) : WD :=
  let r := (p.V.getD p.at_.toNat 0).toNat
  if (d.fields.getD r []).getD p.fld.toNat 0 = p.old then { d with fields := d.fields.set r ((d.fields.getD r []).set p.fld.toNat p.new) } else d
/-- One help: the answer, the kinds of its accesses, the world behind it. -/
def helpH (d : WD) (p : PlanD) (scx : Int) : Bool × List Int × WD :=
  let x := frzH scx d (p.V.zip p.infos)
  if x.1 then
    let m := mrkH { x.2.1 with frozen := x.2.1.frozen.set scx.toNat true } (p.V.zip p.fin)
    let e := swgH m.1 p
    (true, x.2.2 ++ 2 :: (m.2 ++ [5, 2]), { e with states := e.states.set scx.toNat 1 })
  else if x.2.1.frozen.getD scx.toNat false then (true, x.2.2 ++ [1], x.2.1)
  else (false, x.2.2 ++ [1, 2], { x.2.1 with states := x.2.1.states.set scx.toNat 2 })
end Go.Proofs.YtphhdmopfmelbaaGreat
