/- record.New. Written by mk.py. -/
import Derived.Test.YtphhdmopfmelbaaSl
namespace Go.Proofs.Ytphhdmopfmelbaa
open Go.RowKit Go.Proofs.YtphhdmopfmelbaaW.PrintWords
set_option linter.unusedVariables false
set_option linter.unusedSimpArgs false

/-- The SCX-record that a new record has of its own: Aborted. -/
def firstO : ScxO := ⟨.slice none 0 0, .slice none 0 0, .slice none 0 0, 0, 0, none, none, 2, false⟩
/-- Half-way through the fields. -/
def NewInv (TR TC : Nat) (w : World) (fb b : Nat) (ps : List (Option Nat)) (D : List Value) (j : Nat) (wr : World) : Prop :=
  Below w.heap.size w wr ∧ b < wr.heap.size ∧ Blk wr fb TC ((ps.take j).map pv ++ List.replicate (ps.length - j) (.pointer none)) ∧ Blk wr b TR (D ++ [.slice (some ⟨fb, 0, none⟩) ps.length ps.length, .pointer none, .int .u32 0])
theorem NewInv.next {TR TC : Nat} {w wr w' : World} {fb b : Nat} {ps : List (Option Nat)} {D : List Value} {j : Nat} (h : NewInv TR TC w fb b ps D j wr) (hj : j < ps.length) (hfb : w.heap.size ≤ fb) (hne : TR ≠ TC)
    (hf : Fr wr w' (fun k => k = fb)) (hb : Blk w' fb TC (((ps.take j).map pv ++ List.replicate (ps.length - j) (Value.pointer none)).set j (pv (ps.getD j none)))) : NewInv TR TC w fb b ps D (j + 1) w' := by
  obtain ⟨h1, h2, h3, h4⟩ := h
  refine ⟨h1.trans (hf.below h1.size (fun k hk => by omega)), Nat.lt_of_lt_of_le h2 hf.size, ?_, hf.blk h4 (fun e => ?_)⟩
  · have he : ((ps.take j).map pv ++ List.replicate (ps.length - j) (Value.pointer none)).set j (pv (ps.getD j none)) = (ps.take (j + 1)).map pv ++ List.replicate (ps.length - (j + 1)) (.pointer none) := by
      rw [List.set_append_right _ _ (by simp; omega)]
      have e1 : ps.length - j = (ps.length - (j + 1)) + 1 := by omega
      have e2 : j - ((ps.take j).map pv).length = 0 := by simp; omega
      rw [e1, e2, List.replicate_succ, List.set_cons_zero, List.take_succ_eq_append_getElem hj, List.map_append, List.append_assoc]
      simp [List.getD_eq_getElem?_getD, List.getElem?_eq_getElem hj]
    rw [← he]; exact hb
  · subst e
    exact hne (h4.inj h3).1
theorem NewInv.start {TR TC : Nat} (w : World) (ps : List (Option Nat)) (D : List Value) : NewInv TR TC w w.heap.size (w.heap.size + 1) ps D 0
    ((w.alloc (.cells (nils ps.length) TC)).alloc (.cells (D ++ [Value.slice (some ⟨w.heap.size, 0, none⟩) ps.length ps.length, Value.pointer none, Value.int .u32 0]).toArray TR)) := by
  refine ⟨((Below.refl w.heap.size w).alloc (Nat.le_refl _) _).alloc (by simp) _, by simp, ?_, ?_⟩
  · have := (nils_blk w TC ps.length).alloc (.cells (D ++ [Value.slice (some ⟨w.heap.size, 0, none⟩) ps.length ps.length, Value.pointer none, Value.int .u32 0]).toArray TR)
    simpa using this
  · have := Blk.new (w.alloc (.cells (nils ps.length) TC)) TR (D ++ [Value.slice (some ⟨w.heap.size, 0, none⟩) ps.length ps.length, Value.pointer none, Value.int .u32 0])
    simpa using this
theorem NewInv.drew {TR TC : Nat} {w wr : World} {fb b : Nat} {ps : List (Option Nat)} {D : List Value} {j : Nat} (h : NewInv TR TC w fb b ps D j wr) : NewInv TR TC w fb b ps D j wr.drew := ⟨h.1.drew, h.2.1, h.2.2.1, h.2.2.2⟩
theorem NewInv.of {TR TC : Nat} {w w0 wr : World} {fb b : Nat} {ps : List (Option Nat)} {D : List Value} {j : Nat} (h0 : Below w.heap.size w w0) (h : NewInv TR TC w0 fb b ps D j wr) : NewInv TR TC w fb b ps D j wr :=
  ⟨h0.trans (h.1.mono h0.size), h.2⟩
/-- All of it: the new record, and its first SCX-record. -/
theorem NewInv.done {TR dl TC TX : Nat} {w wr w2 w3 : World} {R : Nat → Option RecO} {X : Nat → Option ScxO} {fb b : Nat} {ps : List (Option Nat)} {D : List Value} (hh : Rep TR dl TC TX w R X) (h : NewInv TR TC w fb b ps D ps.length wr)
    (hk : ∀ p ∈ ps, Ok R p) (hD : D.length = dl) (hb0 : w.heap.size ≤ b) (hfb0 : w.heap.size ≤ fb) (hrx : TR ≠ TX) (hcx : TC ≠ TX) (hrc : TR ≠ TC)
    {zs : Array Value} (hf2 : Fr (wr.alloc (.cells zs TX)) w2 (fun k => k = wr.heap.size)) (hx2 : Blk w2 wr.heap.size TX firstO.cells)
    (hf3 : Fr w2 w3 (fun k => k = b)) (hb3 : Blk w3 b TR (D ++ [.slice (some ⟨fb, 0, none⟩) ps.length ps.length, pv (some wr.heap.size), .int .u32 0])) :
    w.heap.size ≤ wr.heap.size ∧ Below w.heap.size w w3 ∧ Rep TR dl TC TX w3 (upd R b ⟨D, fb, ps, some wr.heap.size, false⟩) (upd X wr.heap.size firstO) := by
  obtain ⟨h1, h2, h3, h4⟩ := h
  have hbel2 : Below w.heap.size w w2 := (h1.alloc h1.size _).trans (hf2.below (Nat.le_trans h1.size (by simp)) (fun k hk => by have := h1.size; omega))
  have hbel3 : Below w.heap.size w w3 := hbel2.trans (hf3.below hbel2.size (fun k hk => by omega))
  refine ⟨h1.size, hbel3, hh.addRec (fb := fb) (o := ⟨D, fb, ps, some wr.heap.size, false⟩) hbel3 hb0 hfb0 hb3 hD ?_ (fun x hx => hk _ hx x rfl) rfl h1.size ?_⟩
  · have e1 : Blk wr fb TC (ps.map pv) := by simpa using h3
    have e2 : Blk w2 fb TC (ps.map pv) := hf2.blk (e1.alloc _) (fun e => by have := e1.lt; omega)
    exact hf3.blk e2 (fun e => by subst e; exact hrc (h4.inj e1).1)
  · exact hf3.blk hx2 (fun e => by omega)

theorem ninfo_int : (Try.prog.info? 170).map (fun i => (i.zero, i.size, i.bytes)) = some (some (.agg #[.pointer none]), 1, 8) := by kernel_rfl
set_option maxHeartbeats 1000000 in
set_option maxRecDepth 100000 in
theorem new_int (d : Int) (A : Option Addr) (c : Nat) (ps : List (Option Nat)) (R : Nat → Option RecO) (X : Nat → Option ScxO) (w : World) (h : Repint w R X) (hr : Row1 w A ps.length (ps.map pv)) (hk : ∀ p ∈ ps, Ok R p) (hn : ps.length ≤ 1000000) :
    Calls Try.prog 78 #[.int .i64 d, .slice A ps.length c] w fun e w' => ∃ b fb xb, e = .returned (pv (some b)) ∧ w.heap.size ≤ b ∧ w.heap.size ≤ fb ∧ w.heap.size ≤ xb ∧ Below w.heap.size w w' ∧
      Repint w' (upd R b ⟨[.int .i64 d], fb, ps, some xb, false⟩) (upd X xb firstO) := by
  have hmk := fun w => run_make_nils (P := Try.prog) Try.underlying171 ninfo_int rfl ps.length (by omega) (by omega) w
  refine calls_hide fun Q HQ => ?_
  have HQ' := Lib.hid HQ
  have HK := Lib.hid hk
  have HR := Lib.hid hr
  have HH := Lib.hid h
  clear HQ hk hr h
  go_enter Try.func78, Try.ntmps78
  go_wp2
  have hst := NewInv.start (TR := 178) (TC := 170) w ps [.int .i64 d]
  go_loopw [17] (fun k wr => ∃ j : Nat, j ≤ ps.length ∧ k = .int .i64 j ∧ NewInv 178 170 w w.heap.size (w.heap.size + 1) ps [.int .i64 d] j wr) (fun k _ => ps.length - (intOf k).toNat)
  case atStart => first | exact ⟨0, Nat.zero_le _, rfl, hst⟩ | exact ⟨0, Nat.zero_le _, rfl, by simpa using hst⟩
  case round =>
    clear hst
    obtain ⟨j, hj, rfl, hI⟩ := hrel
    have HI := Lib.hid hI
    have hbel := hI.1
    have hsz := hI.2.1
    clear hI
    by_cases hlt : j < ps.length
    · have hx0 : (ps.map pv)[j]? = some (pv (ps.getD j none)) := by simp [List.getD_eq_getElem?_getD, List.getElem?_eq_getElem hlt]
      obtain ⟨ad, hA, hc0⟩ := HR.out.at_ hx0
      have hc : wr.cell? (ad.add j) = some (pv (ps.getD j none)) := pw_cell_below hbel hc0
      have hsl : wr.cell? ⟨(w.heap.size + 1), 1, none⟩ = some (.slice (some ⟨w.heap.size, 0, none⟩) ps.length ps.length) := by rw [HI.out.2.2.2.cell]; rfl
      have hp : PtrTo 178 4 wr (ps.getD j none) := (HH.out.below hbel).recPtr (HK.out _ (by simp [List.getD_eq_getElem?_getD, List.getElem?_eq_getElem hlt]))
      have hu : ((ps.take j).map pv ++ List.replicate (ps.length - j) (Value.pointer none))[j]? = some (.pointer none) := by
        rw [List.getElem?_append_right (by simp; omega), List.getElem?_replicate, if_pos (by simp; omega)]
      have HC := Lib.hid (cell_store_Recordint 0 none [] w.heap.size j 170 _ wr (GAt.nil _ _ _ _ _) (Nat.zero_le _) (by simp) HI.out.2.2.1 (by decide) (by decide) (ps.getD j none) _ hu hp)
      have HN := Lib.hid (fun w' hf hb => HI.out.next (w' := w') hlt (by omega) (by decide) hf hb)
      generalize ps.getD j none = p at *
      clear hbel hx0 hc0 hp hu HR HH HI HK
      subst hA
      go_wp2_with fail
      refine HC.out.mono ?_
      rintro e w1 ⟨rfl, H, hb⟩
      have HN1 := Lib.hid (HN.out w1 H.fr0 hb)
      clear H hb HN HC hc
      go_wp2
      go_roundw
      case rel => exact ⟨j + 1, by omega, by go_num, HN1.out⟩
      case measure => simp [intOf]; omega
    · obtain rfl : j = ps.length := by omega
      have HB := HI.out.2.2.2
      have HC := Lib.hid (num_store 0 none [] wr.heap.size 7 152 [.slice none 0 0, .slice none 0 0, .slice none 0 0, .int .i64 0, .int .i64 0, .pointer none, .pointer none, .int .i64 0, .int .u32 0] (wr.alloc (.cells #[.slice none 0 0, .slice none 0 0, .slice none 0 0, .int .i64 0, .int .i64 0, .pointer none, .pointer none, .int .i64 0, .int .u32 0] 152)) (GAt.nil _ _ _ _ _) (Nat.zero_le _) (by simp) (Blk.new wr _ _) (by decide) (by decide) 2 (by decide) (by decide) (.int .i64 0) rfl)
      have HB1 := Lib.hid HB
      have HR0 := Lib.hid hbel.size
      clear HB hbel
      go_wp2_with fail
      refine HC.out.mono ?_
      rintro e w2 ⟨rfl, H, hb⟩
      have hf2 := Lib.hid H.fr0
      have hx2 := Lib.hid (show Blk w2 wr.heap.size 152 firstO.cells from hb)
      have hr2 := Lib.hid (H.fr0.blk (HB1.out.alloc _) (fun e => by omega))
      have HC2 := Lib.hid (cell_store_Scxint 0 none [] (w.heap.size + 1) 2 178 _ w2 (GAt.nil _ _ _ _ _) (Nat.zero_le _) (by simp) hr2.out (by decide) (by decide) (some wr.heap.size) (.pointer none) rfl (hx2.out.ptr))
      clear H hb HC HB1 hr2
      go_wp2_with fail
      refine HC2.out.mono ?_
      rintro e w3 ⟨rfl, H, hb⟩
      have HD := Lib.hid (HI.out.done HH.out HK.out rfl (by omega) (by omega) (by decide) (by decide) (by decide) hf2.out hx2.out H.fr0 hb)
      clear H hb HC2 hx2 hf2
      go_wp2
      exact HQ'.out _ _ ⟨_, _, _, rfl, by omega, by omega, HD.out.1, HD.out.2.1, HD.out.2.2⟩

theorem ninfo_L12thing : (Try.prog.info? 191).map (fun i => (i.zero, i.size, i.bytes)) = some (some (.agg #[.pointer none]), 1, 8) := by kernel_rfl
set_option maxHeartbeats 1000000 in
set_option maxRecDepth 100000 in
theorem new_L12thing (d : Int) (s : ByteArray) (A : Option Addr) (c : Nat) (ps : List (Option Nat)) (R : Nat → Option RecO) (X : Nat → Option ScxO) (w : World) (h : RepL12thing w R X) (hr : Row1 w A ps.length (ps.map pv)) (hk : ∀ p ∈ ps, Ok R p) (hn : ps.length ≤ 1000000) :
    Calls Try.prog 48 #[.agg #[.int .i64 d, .string s], .slice A ps.length c] w fun e w' => ∃ b fb xb, e = .returned (pv (some b)) ∧ w.heap.size ≤ b ∧ w.heap.size ≤ fb ∧ w.heap.size ≤ xb ∧ Below w.heap.size w w' ∧
      RepL12thing w' (upd R b ⟨[.int .i64 d, .string s], fb, ps, some xb, false⟩) (upd X xb firstO) := by
  have hmk := fun w => run_make_nils (P := Try.prog) Try.underlying108 ninfo_L12thing rfl ps.length (by omega) (by omega) w
  refine calls_hide fun Q HQ => ?_
  have HQ' := Lib.hid HQ
  have HK := Lib.hid hk
  have HR := Lib.hid hr
  have HH := Lib.hid h
  clear HQ hk hr h
  go_enter Try.func48, Try.ntmps48
  go_wp2
  go_region
  go_wp2
  have hst := ((NewInv.start (TR := 124) (TC := 191) (w.alloc (.cells ([.int .i64 d, .string s] : List Value).toArray 106)) ps [.int .i64 d, .string s]).of ((Below.refl w.heap.size w).alloc (Nat.le_refl _) _)).drew
  go_loopw [17] (fun k wr => ∃ j : Nat, j ≤ ps.length ∧ k = .int .i64 j ∧ NewInv 124 191 w (w.heap.size + 1) (w.heap.size + 2) ps [.int .i64 d, .string s] j wr) (fun k _ => ps.length - (intOf k).toNat)
  case atStart => first | exact ⟨0, Nat.zero_le _, rfl, hst⟩ | exact ⟨0, Nat.zero_le _, rfl, by simpa using hst⟩
  case round =>
    clear hst
    obtain ⟨j, hj, rfl, hI⟩ := hrel
    have HI := Lib.hid hI
    have hbel := hI.1
    have hsz := hI.2.1
    clear hI
    by_cases hlt : j < ps.length
    · have hx0 : (ps.map pv)[j]? = some (pv (ps.getD j none)) := by simp [List.getD_eq_getElem?_getD, List.getElem?_eq_getElem hlt]
      obtain ⟨ad, hA, hc0⟩ := HR.out.at_ hx0
      have hc : wr.cell? (ad.add j) = some (pv (ps.getD j none)) := pw_cell_below hbel hc0
      have hsl : wr.cell? ⟨(w.heap.size + 2), 2, none⟩ = some (.slice (some ⟨(w.heap.size + 1), 0, none⟩) ps.length ps.length) := by rw [HI.out.2.2.2.cell]; rfl
      have hp : PtrTo 124 5 wr (ps.getD j none) := (HH.out.below hbel).recPtr (HK.out _ (by simp [List.getD_eq_getElem?_getD, List.getElem?_eq_getElem hlt]))
      have hu : ((ps.take j).map pv ++ List.replicate (ps.length - j) (Value.pointer none))[j]? = some (.pointer none) := by
        rw [List.getElem?_append_right (by simp; omega), List.getElem?_replicate, if_pos (by simp; omega)]
      have HC := Lib.hid (cell_store_RecordL12thing 0 none [] (w.heap.size + 1) j 191 _ wr (GAt.nil _ _ _ _ _) (Nat.zero_le _) (by simp) HI.out.2.2.1 (by decide) (by decide) (ps.getD j none) _ hu hp)
      have HN := Lib.hid (fun w' hf hb => HI.out.next (w' := w') hlt (by omega) (by decide) hf hb)
      generalize ps.getD j none = p at *
      clear hbel hx0 hc0 hp hu HR HH HI HK
      subst hA
      go_wp2_with fail
      refine HC.out.mono ?_
      rintro e w1 ⟨rfl, H, hb⟩
      have HN1 := Lib.hid (HN.out w1 H.fr0 hb)
      clear H hb HN HC hc
      go_wp2
      go_roundw
      case rel => exact ⟨j + 1, by omega, by go_num, HN1.out⟩
      case measure => simp [intOf]; omega
    · obtain rfl : j = ps.length := by omega
      have HB := HI.out.2.2.2
      have HC := Lib.hid (num_store 0 none [] wr.heap.size 7 141 [.slice none 0 0, .slice none 0 0, .slice none 0 0, .int .i64 0, .int .i64 0, .pointer none, .pointer none, .int .i64 0, .int .u32 0] (wr.alloc (.cells #[.slice none 0 0, .slice none 0 0, .slice none 0 0, .int .i64 0, .int .i64 0, .pointer none, .pointer none, .int .i64 0, .int .u32 0] 141)) (GAt.nil _ _ _ _ _) (Nat.zero_le _) (by simp) (Blk.new wr _ _) (by decide) (by decide) 2 (by decide) (by decide) (.int .i64 0) rfl)
      have HB1 := Lib.hid HB
      have HR0 := Lib.hid hbel.size
      clear HB hbel
      go_wp2_with fail
      refine HC.out.mono ?_
      rintro e w2 ⟨rfl, H, hb⟩
      have hf2 := Lib.hid H.fr0
      have hx2 := Lib.hid (show Blk w2 wr.heap.size 141 firstO.cells from hb)
      have hr2 := Lib.hid (H.fr0.blk (HB1.out.alloc _) (fun e => by omega))
      have HC2 := Lib.hid (cell_store_ScxL12thing 0 none [] (w.heap.size + 2) 3 124 _ w2 (GAt.nil _ _ _ _ _) (Nat.zero_le _) (by simp) hr2.out (by decide) (by decide) (some wr.heap.size) (.pointer none) rfl (hx2.out.ptr))
      clear H hb HC HB1 hr2
      go_wp2_with fail
      refine HC2.out.mono ?_
      rintro e w3 ⟨rfl, H, hb⟩
      have HD := Lib.hid (HI.out.done HH.out HK.out rfl (by omega) (by omega) (by decide) (by decide) (by decide) hf2.out hx2.out H.fr0 hb)
      clear H hb HC2 hx2 hf2
      go_wp2
      exact HQ'.out _ _ ⟨_, _, _, rfl, by omega, by omega, HD.out.1, HD.out.2.1, HD.out.2.2⟩
end Go.Proofs.Ytphhdmopfmelbaa
