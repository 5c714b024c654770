/- record: do, kinds 1 to 6. Written by p_do.py. -/
import Derived.Test.YtphhdmopfmelbaaRecDo
import Derived.Deep.RegionHeld3
namespace Go.Proofs.Ytphhdmopfmelbaa
open Go.RowKit Go.Proofs.YtphhdmopfmelbaaW.PrintWords
set_option linter.unusedVariables false
set_option linter.unusedSimpArgs false

theorem LiveAt.below {d : WD} {B m : Nat} {w w' : World} {R : Nat → Option RecO} {X : Nat → Option ScxO} {rs fs xs : List Nat} {v1 v2 v3 : Value} (h : LiveAt d B m w R X rs fs xs v1 v2 v3) (hb : Below w.heap.size w w') : LiveAt d B m w' R X rs fs xs v1 v2 v3 :=
  ⟨h.hr, h.hx, h.made.below hb, h.stage.below hb, h.hm⟩
theorem gstep_below {B : Nat} {g : Option Nat} {w w' : World} {ks : List Int} (hg : GAtI w B g ks) (hb : Below w.heap.size w w') : StepI B g w w' ks (fun _ => False) := GAt.fr hg (Fr.of_below0 hb) (fun _ _ => id)
theorem act_end {B : Nat} {g : Option Nat} {w wA w' : World} {ks ks' : List Int} {S : Nat → Prop} (hg : GAtI w B g ks) (hb : Below w.heap.size w wA) (hs : StepI B g wA w' ks' S) (hS : ∀ k, S k → Thing B wA k) : StepI B g w w' ks' (Thing B w) :=
  ((gstep_below hg hb).mono (S' := Thing B w) (fun _ _ h => h.elim)).trans hs (fun k hk hx => by
    obtain ⟨h0, T, ys, h1, h2⟩ := hS k hx
    exact ⟨h0, T, ys, (hb.block k hk).symm.trans h1, h2⟩)

theorem row_of_slice {w : World} {B e n c : Nat} {A : Option Addr} {v : Value} {us : List Value} (h : w.ownsRow B e 1 v n us) (hv : v = .slice A n c) : Row1 w A n us := by
  obtain ⟨A', c', hv', hr, _⟩ := owns_slice h
  rw [hv] at hv'
  rw [(Value.slice.inj hv').1]
  exact hr
theorem index_rs {d : WD} {B m : Nat} {w : World} {R : Nat → Option RecO} {X : Nat → Option ScxO} {rs fs xs : List Nat} {v1 v2 v3 : Value} (h : LiveAt d B m w R X rs fs xs v1 v2 v3) {A : Option Addr} {c : Nat} (hv : v1 = .slice A rs.length c) (hl : rs.length ≤ 1000000) (x : Option Nat) (hx : Ok R x) :
    Calls Try.prog 93 #[.slice A rs.length c, pv x] w fun e w' => e = .returned (.int .i64 (idx (rs.map some) x)) ∧ w = w' := by
  have hr := row_of_slice h.made.o1 hv
  have := index_PRecordint A c (rs.map some) x w (by rw [List.length_map, List.map_map]; exact hr) (fun p hp => by
    obtain ⟨b, hb, rfl⟩ := List.mem_map.1 hp
    obtain ⟨i, hi⟩ := List.getElem?_of_mem hb
    obtain ⟨fb, h1, _⟩ := h.stage.r i b hi
    exact (h.stage.rep.recPtr (Ok.of h1)).known) (h.stage.rep.recPtr hx).known (by simp; omega)
  simpa using this
theorem index_xs {d : WD} {B m : Nat} {w : World} {R : Nat → Option RecO} {X : Nat → Option ScxO} {rs fs xs : List Nat} {v1 v2 v3 : Value} (h : LiveAt d B m w R X rs fs xs v1 v2 v3) {A : Option Addr} {c : Nat} (hv : v3 = .slice A xs.length c) (hl : xs.length ≤ 1000000) (x : Option Nat) (hx : Ok X x) :
    Calls Try.prog 96 #[.slice A xs.length c, pv x] w fun e w' => e = .returned (.int .i64 (idx (xs.map some) x)) ∧ w = w' := by
  have hr := row_of_slice h.made.o3 hv
  have := index_PScxint A c (xs.map some) x w (by rw [List.length_map, List.map_map]; exact hr) (fun p hp => by
    obtain ⟨b, hb, rfl⟩ := List.mem_map.1 hp
    obtain ⟨i, hi⟩ := List.getElem?_of_mem hb
    obtain ⟨fb, h1, _⟩ := h.stage.x i b hi
    exact (h.stage.rep.scxPtr (Ok.of h1)).known) (h.stage.rep.scxPtr hx).known (by simp; omega)
  simpa using this
theorem get_of_getD {α : Type} {l : List α} {i : Nat} (h : i < l.length) (x : α) : l[i]? = some (l.getD i x) := by simp [List.getD_eq_getElem?_getD, List.getElem?_eq_getElem h]
theorem getD_map {α β : Type} (f : α → β) (l : List α) (i : Nat) (x : α) (y : β) (h : i < l.length) : (l.map f).getD i y = f (l.getD i x) := by
  simp [List.getD_eq_getElem?_getD, List.getElem?_eq_getElem h]

set_option maxHeartbeats 400000 in
set_option maxRecDepth 100000 in
theorem do_1 {d : WD} {B m : Nat} {w : World} {R : Nat → Option RecO} {X : Nat → Option ScxO} {rs fs xs : List Nat} {v1 v2 v3 : Value} {g : Option Nat} {ks : List Int} (h : LiveAt d B m w R X rs fs xs v1 v2 v3) (hfo : d.Form) (hg : GAtI w B g ks) (hbB : B ≤ w.heap.size) (hl : ks.length ≤ 1000000000)
    (i : Nat) (a b c : Int) (f : d.Fit 1 i a b c) :
    Calls Try.prog 41 #[.pointer (some ⟨m, 0, none⟩), gvI g, .agg #[.int .i64 1, .int .i64 i, .int .i64 a, .int .i64 b, .int .i64 c]] w fun e w' =>
      e = .returned (.int .i64 (doD d 1 i a b c).1) ∧ StepI B g w w' (ks ++ [kd 1]) (Thing B w) ∧ ∃ R' X', LiveAt (doD d 1 i a b c).2 B m w' R' X' rs fs xs v1 v2 v3 := by
  refine calls_hide fun Q HQ => ?_
  have HQ' := Lib.hid HQ
  have hi : i < d.fields.length := by have := f.row (by omega); simpa using this
  obtain ⟨q, fb, hq, hR, hfb⟩ := h.row hi
  obtain ⟨b0, k0, hv, hcell⟩ := owns_at h.made.o1 (j := i) (by have := h.hr; omega)
  rw [hq] at hcell
  have hcell1 : _ = some (Value.pointer (some ⟨q, 0, none⟩)) := hcell
  have hm : w.cell? ⟨m, 0, none⟩ = some v1 := by rw [h.made.blk.cell]; rfl
  have hrl : i < rs.length := by have := h.hr; omega
  have hl0 := World.block_lt_of_cell? w _ hm
  have hl1 := World.block_lt_of_cell? w _ hcell
  have HH := Lib.hid h
  have HF := Lib.hid hfo
  have HG := Lib.hid hg
  have HFi := Lib.hid f
  have HHR := Lib.hid hR
  have HHQ := Lib.hid hq
  rw [hv] at hm
  clear HQ h hfo hg f hR hq hcell
  go_enter Try.func41, Try.ntmps41
  go_wp2_with fail
  have hbl := Blk.new w 65 [.int .i64 1, .int .i64 i, .int .i64 a, .int .i64 b, .int .i64 c]
  have hm2 := (World.cell?_alloc_lt w (.cells #[.int .i64 1, .int .i64 i, .int .i64 a, .int .i64 b, .int .i64 c] 65) _ hl0).trans hm
  have hc2 := (World.cell?_alloc_lt w (.cells #[.int .i64 1, .int .i64 i, .int .i64 a, .int .i64 b, .int .i64 c] 65) _ hl1).trans hcell1
  have hbA := ((Below.refl w.heap.size w).alloc (Nat.le_refl _) (.cells #[.int .i64 1, .int .i64 i, .int .i64 a, .int .i64 b, .int .i64 c] 65))
  have ha0 := hbl.cell 0
  have ha1 := hbl.cell 1
  have ha2 := hbl.cell 2
  have ha3 := hbl.cell 3
  have ha4 := hbl.cell 4
  simp only [List.getElem?_cons_zero, List.getElem?_cons_succ] at ha0 ha1 ha2 ha3 ha4
  have HBl := Lib.hid hbl
  clear hm hcell1 hbl
  generalize w.alloc (.cells #[.int .i64 1, .int .i64 i, .int .i64 a, .int .i64 b, .int .i64 c] 65) = wA at *
  refine wp_region_still_tail 8 (by kernel_rfl) (by kernel_rfl) ?_
  simp only [List.take_succ_cons, List.take_zero, List.drop_succ_cons, List.drop_zero]
  iterate 8 still_step
  refine wpStill_nil ?_
  change wpList _ _ _ _ _ wA.drew
  have HBA := Lib.hid hbA.drew
  have HBl2 := Lib.hid (show Blk wA.drew w.heap.size 65 _ from HBl.out)
  clear hm2 hc2 HBl hbA ha0 ha1 ha2 ha3 ha4
  generalize wA.drew = wz at *
  have ha0 := HBl2.out.cell 0
  have ha1 := HBl2.out.cell 1
  have ha2 := HBl2.out.cell 2
  have ha3 := HBl2.out.cell 3
  have ha4 := HBl2.out.cell 4
  simp only [List.getElem?_cons_zero, List.getElem?_cons_succ] at ha0 ha1 ha2 ha3 ha4
  have HZ := Lib.hid (HH.out.below HBA.out)
  have HGZ := Lib.hid (gstep_below HG.out HBA.out).gate
  have hbBz : B ≤ wz.heap.size := Nat.le_trans hbB HBA.out.size
  have HV := Lib.hid hv
  clear hv
  have hO : ((d.fields.getD i []).map (rp rs)).length = (d.fields.getD i []).length := by simp
  have hm3 : wz.cell? ⟨m, 0, none⟩ = some (.slice (some ⟨b0, 0, none⟩) rs.length k0) := by rw [HZ.out.made.blk.cell, HV.out]; rfl
  go_wp2_with fail
  have HZ2 := Lib.hid (HZ.out.below (Below.refl wz.heap.size wz).drew)
  have HG2 := Lib.hid (gstep_below HGZ.out (Below.refl wz.heap.size wz).drew).gate
  have HBA2 := Lib.hid HBA.out.drew
  have hA := HFi.out.a0 (.inl rfl)
  have hA2 : a.toNat < (d.fields.getD i []).length := by have := hA.1; have := hA.2; rw [Int.toNat_natCast] at this; omega
  have hX := get_int B g ks R X wz.drew HZ2.out.stage.rep HG2.out hbBz hl q _ HHR.out a hA.1 (by simpa using hA.2)
  have hp1 : Ok R (((d.fields.getD i []).map (rp rs)).getD a.toNat none) := HZ2.out.stage.rep.okField HHR.out (i := a.toNat) (get_of_getD (by rw [hO]; exact hA2) none)
  have hp2 : idx (rs.map some) (((d.fields.getD i []).map (rp rs)).getD a.toNat none) = (doD d 1 i a b c).1 := by
    have hn := HF.out.hF _ (getD_mem hi []) _ (getD_mem hA2 0)
    rw [getD_map _ _ _ 0 _ hA2, idx_rp HZ.out.stage.ndr hn.1 (by have := HZ.out.hr; omega)]
    rfl
  simp only at hX
  generalize ((d.fields.getD i []).map (rp rs)).getD a.toNat none = p at *
  have HX := Lib.hid hX
  have HP1 := Lib.hid hp1
  have HP2 := Lib.hid hp2
  have hm4 : wz.drew.cell? ⟨m, 0, none⟩ = some (.slice (some ⟨b0, 0, none⟩) rs.length k0) := hm3
  have hm6 : wz.drew.cell? ⟨w.heap.size, 2, none⟩ = some (.int .i64 a) := ha2
  have HBl3 := Lib.hid (show Blk wz.drew w.heap.size 65 _ from HBl2.out)
  clear hX hp1 hp2 hA hA2 hO
  go_region_held3 (fun w' => w'.cell? ⟨m, 0, none⟩ = some (.slice (some ⟨b0, 0, none⟩) rs.length k0) ∧ w'.cell? ⟨w.heap.size, 2, none⟩ = some (.int .i64 a)) (exact ⟨by assumption, by assumption⟩) (first
    | (go_at_call 94; refine HX.out.mono ?_; rintro e w1 ⟨rfl, H1, H2⟩
       have HL := Lib.hid (HZ2.out.same HG2.out H1 H2); have H1' := Lib.hid H1
       have hm5 : w1.cell? ⟨m, 0, none⟩ = some (.slice (some ⟨b0, 0, none⟩) rs.length k0) := by rw [HL.out.made.blk.cell, HV.out]; rfl
       have hm7 : w1.cell? ⟨w.heap.size, 2, none⟩ = some (.int .i64 a) := by rw [(H1.blk HG2.out HBl3.out (by decide) (by decide) (fun h => h)).cell]; rfl
       clear H1 H2)
    | (go_at_call 93
       refine (index_rs HL.out HV.out (by have := HL.out.hr; have := HF.out.l0; omega) _ HP1.out).mono ?_
       rw [HP2.out]
       rintro e w2 ⟨rfl, rfl⟩))
  go_wp2
  exact HQ'.out _ _ ⟨rfl, act_end HG.out HBA2.out H1'.out (fun _ h => h.elim), R, X, HL.out⟩

set_option maxHeartbeats 400000 in
set_option maxRecDepth 100000 in
theorem do_2 {d : WD} {B m : Nat} {w : World} {R : Nat → Option RecO} {X : Nat → Option ScxO} {rs fs xs : List Nat} {v1 v2 v3 : Value} {g : Option Nat} {ks : List Int} (h : LiveAt d B m w R X rs fs xs v1 v2 v3) (hfo : d.Form) (hg : GAtI w B g ks) (hbB : B ≤ w.heap.size) (hl : ks.length ≤ 1000000000)
    (i : Nat) (a b c : Int) (f : d.Fit 2 i a b c) :
    Calls Try.prog 41 #[.pointer (some ⟨m, 0, none⟩), gvI g, .agg #[.int .i64 2, .int .i64 i, .int .i64 a, .int .i64 b, .int .i64 c]] w fun e w' =>
      e = .returned (.int .i64 (doD d 2 i a b c).1) ∧ StepI B g w w' (ks ++ [kd 2]) (Thing B w) ∧ ∃ R' X', LiveAt (doD d 2 i a b c).2 B m w' R' X' rs fs xs v1 v2 v3 := by
  refine calls_hide fun Q HQ => ?_
  have HQ' := Lib.hid HQ
  have hi : i < d.fields.length := by have := f.row (by omega); simpa using this
  obtain ⟨q, fb, hq, hR, hfb⟩ := h.row hi
  obtain ⟨b0, k0, hv, hcell⟩ := owns_at h.made.o1 (j := i) (by have := h.hr; omega)
  rw [hq] at hcell
  have hcell1 : _ = some (Value.pointer (some ⟨q, 0, none⟩)) := hcell
  have hm : w.cell? ⟨m, 0, none⟩ = some v1 := by rw [h.made.blk.cell]; rfl
  have hrl : i < rs.length := by have := h.hr; omega
  have hl0 := World.block_lt_of_cell? w _ hm
  have hl1 := World.block_lt_of_cell? w _ hcell
  have HH := Lib.hid h
  have HF := Lib.hid hfo
  have HG := Lib.hid hg
  have HFi := Lib.hid f
  have HHR := Lib.hid hR
  have HHQ := Lib.hid hq
  rw [hv] at hm
  clear HQ h hfo hg f hR hq hcell
  go_enter Try.func41, Try.ntmps41
  go_wp2_with fail
  have hbl := Blk.new w 65 [.int .i64 2, .int .i64 i, .int .i64 a, .int .i64 b, .int .i64 c]
  have hm2 := (World.cell?_alloc_lt w (.cells #[.int .i64 2, .int .i64 i, .int .i64 a, .int .i64 b, .int .i64 c] 65) _ hl0).trans hm
  have hc2 := (World.cell?_alloc_lt w (.cells #[.int .i64 2, .int .i64 i, .int .i64 a, .int .i64 b, .int .i64 c] 65) _ hl1).trans hcell1
  have hbA := ((Below.refl w.heap.size w).alloc (Nat.le_refl _) (.cells #[.int .i64 2, .int .i64 i, .int .i64 a, .int .i64 b, .int .i64 c] 65))
  have ha0 := hbl.cell 0
  have ha1 := hbl.cell 1
  have ha2 := hbl.cell 2
  have ha3 := hbl.cell 3
  have ha4 := hbl.cell 4
  simp only [List.getElem?_cons_zero, List.getElem?_cons_succ] at ha0 ha1 ha2 ha3 ha4
  have HBl := Lib.hid hbl
  clear hm hcell1 hbl
  generalize w.alloc (.cells #[.int .i64 2, .int .i64 i, .int .i64 a, .int .i64 b, .int .i64 c] 65) = wA at *
  refine wp_region_still_tail 8 (by kernel_rfl) (by kernel_rfl) ?_
  simp only [List.take_succ_cons, List.take_zero, List.drop_succ_cons, List.drop_zero]
  iterate 8 still_step
  refine wpStill_nil ?_
  change wpList _ _ _ _ _ wA.drew
  have HBA := Lib.hid hbA.drew
  have HBl2 := Lib.hid (show Blk wA.drew w.heap.size 65 _ from HBl.out)
  clear hm2 hc2 HBl hbA ha0 ha1 ha2 ha3 ha4
  generalize wA.drew = wz at *
  have ha0 := HBl2.out.cell 0
  have ha1 := HBl2.out.cell 1
  have ha2 := HBl2.out.cell 2
  have ha3 := HBl2.out.cell 3
  have ha4 := HBl2.out.cell 4
  simp only [List.getElem?_cons_zero, List.getElem?_cons_succ] at ha0 ha1 ha2 ha3 ha4
  have HZ := Lib.hid (HH.out.below HBA.out)
  have HGZ := Lib.hid (gstep_below HG.out HBA.out).gate
  have hbBz : B ≤ wz.heap.size := Nat.le_trans hbB HBA.out.size
  have HV := Lib.hid hv
  clear hv
  have hO : ((d.fields.getD i []).map (rp rs)).length = (d.fields.getD i []).length := by simp
  have hm3 : wz.cell? ⟨m, 0, none⟩ = some (.slice (some ⟨b0, 0, none⟩) rs.length k0) := by rw [HZ.out.made.blk.cell, HV.out]; rfl
  go_wp2_with fail
  have HZ2 := Lib.hid (HZ.out.below (Below.refl wz.heap.size wz).drew)
  have HG2 := Lib.hid (gstep_below HGZ.out (Below.refl wz.heap.size wz).drew).gate
  have HBA2 := Lib.hid HBA.out.drew
  have hA := HFi.out.a0 (.inr rfl)
  have hB := HFi.out.b0 rfl
  have hA2 : a.toNat < (d.fields.getD i []).length := by have := hA.1; have := hA.2; rw [Int.toNat_natCast] at this; omega
  have hX := swing_int B g ks R X wz.drew HZ2.out.stage.rep HG2.out hbBz hl q _ HHR.out a hA.1 (by simpa using hA.2) (rp rs b) (rp rs c) (HZ2.out.stage.okR b) (HZ2.out.stage.okR c)
  have HLB := Lib.hid (calls_swap (live_record wz.drew B m rs fs xs _ _ _ HZ2.out.made b hB.1.1 (by have := HZ.out.hr; have := hB.1.2; omega)))
  have HLC := Lib.hid (calls_swap (live_record wz.drew B m rs fs xs _ _ _ HZ2.out.made c hB.2.1 (by have := HZ.out.hr; have := hB.2.2; omega)))
  have hn := HF.out.hF _ (getD_mem hi []) _ (getD_mem hA2 0)
  have hp2 : bitI (decide (((d.fields.getD i []).map (rp rs)).getD a.toNat none = rp rs b)) = (doD d 2 i a b c).1 ∧ ∀ k, ((doD d 2 i a b c).2.fields.getD k []).map (rp rs) = if k = i then (if ((d.fields.getD i []).map (rp rs)).getD a.toNat none = rp rs b then ((d.fields.getD i []).map (rp rs)).set a.toNat (rp rs c) else (d.fields.getD i []).map (rp rs)) else (d.fields.getD k []).map (rp rs) := by
    have hl2 := HZ.out.hr
    have e : ((d.fields.getD i []).map (rp rs)).getD a.toNat none = rp rs b ↔ (d.fields.getD i []).getD a.toNat 0 = b := by
      rw [getD_map _ _ _ 0 _ hA2]
      exact rp_inj HZ.out.stage.ndr hn.1 (by omega) hB.1.1 (by have := hB.1.2; omega)
    simp only [e]
    simp only [doD, show ¬ (2 : Int) = 1 by decide, if_false, if_true, Int.toNat_natCast]
    by_cases e2 : (d.fields.getD i []).getD a.toNat 0 = b
    · simp only [e2, if_true, decide_true]
      exact ⟨rfl, fun k => by rw [getD_set _ _ _ _ _ hi]; split <;> simp [List.map_set]⟩
    · simp only [e2, if_false, decide_false]
      exact ⟨rfl, fun k => by split <;> simp_all⟩
  have hl3 : (doD d 2 i a b c).2.fields.length = d.fields.length ∧ (doD d 2 i a b c).2.infos = d.infos ∧ (doD d 2 i a b c).2.marks = d.marks ∧ (doD d 2 i a b c).2.states = d.states ∧ (doD d 2 i a b c).2.frozen = d.frozen := by
    simp only [doD, show ¬ (2 : Int) = 1 by decide, if_false, if_true]
    split <;> simp
  simp only at hX
  have HD2 := Lib.hid hp2
  have HL3 := Lib.hid hl3
  clear hp2 hl3
  have HX := Lib.hid hX
  clear hX hA hB hn hO
  refine wp_region_still_tail 12 (by kernel_rfl) (by kernel_rfl) ?_
  simp only [List.take_succ_cons, List.take_zero, List.drop_succ_cons, List.drop_zero]
  iterate 7 still_step
  still_call (HLB.out)
  iterate 3 still_step
  still_call (HLC.out)
  refine wpStill_nil ?_
  change wpList _ _ _ _ _ wz.drew
  clear ha0 ha1 ha2 ha3 ha4 hm3 HLB HLC
  generalize wz.drew = wy at *
  go_wp2_with fail
  refine HX.out.mono ?_
  rintro e w1 ⟨rfl, H1, H2⟩
  have HL := Lib.hid (HZ2.out.setRec (d' := (doD d 2 i a b c).2) HG2.out HHQ.out HHR.out (.inr rfl) H1 H2 HL3.out.1 HL3.out.2.2.2.1 HL3.out.2.2.2.2 HD2.out.2 (fun k => by rw [HL3.out.2.1]; split <;> simp_all) (fun k => by rw [HL3.out.2.2.1]; split <;> simp_all))
  have HEND := Lib.hid (act_end HG.out HBA2.out H1 (fun k h => h ▸ (HZ2.out.thingR HHQ.out HHR.out).2))
  have HD3 := Lib.hid HD2.out.1
  clear H1 H2 HX HD2 HL3
  generalize decide (((d.fields.getD i []).map (rp rs)).getD a.toNat none = rp rs b) = dd at *
  go_wp2_with fail
  refine (bit_of _ _).mono ?_
  rw [HD3.out]
  rintro e w2 ⟨rfl, rfl⟩
  go_wp2
  exact HQ'.out _ _ ⟨rfl, HEND.out, _, _, HL.out⟩

set_option maxHeartbeats 400000 in
set_option maxRecDepth 100000 in
theorem do_3 {d : WD} {B m : Nat} {w : World} {R : Nat → Option RecO} {X : Nat → Option ScxO} {rs fs xs : List Nat} {v1 v2 v3 : Value} {g : Option Nat} {ks : List Int} (h : LiveAt d B m w R X rs fs xs v1 v2 v3) (hfo : d.Form) (hg : GAtI w B g ks) (hbB : B ≤ w.heap.size) (hl : ks.length ≤ 1000000000)
    (i : Nat) (a b c : Int) (f : d.Fit 3 i a b c) :
    Calls Try.prog 41 #[.pointer (some ⟨m, 0, none⟩), gvI g, .agg #[.int .i64 3, .int .i64 i, .int .i64 a, .int .i64 b, .int .i64 c]] w fun e w' =>
      e = .returned (.int .i64 (doD d 3 i a b c).1) ∧ StepI B g w w' (ks ++ [kd 3]) (Thing B w) ∧ ∃ R' X', LiveAt (doD d 3 i a b c).2 B m w' R' X' rs fs xs v1 v2 v3 := by
  refine calls_hide fun Q HQ => ?_
  have HQ' := Lib.hid HQ
  have hi : i < d.fields.length := by have := f.row (by omega); simpa using this
  obtain ⟨q, fb, hq, hR, hfb⟩ := h.row hi
  obtain ⟨b0, k0, hv, hcell⟩ := owns_at h.made.o1 (j := i) (by have := h.hr; omega)
  rw [hq] at hcell
  have hcell1 : _ = some (Value.pointer (some ⟨q, 0, none⟩)) := hcell
  have hm : w.cell? ⟨m, 0, none⟩ = some v1 := by rw [h.made.blk.cell]; rfl
  have hrl : i < rs.length := by have := h.hr; omega
  have hl0 := World.block_lt_of_cell? w _ hm
  have hl1 := World.block_lt_of_cell? w _ hcell
  have HH := Lib.hid h
  have HF := Lib.hid hfo
  have HG := Lib.hid hg
  have HFi := Lib.hid f
  have HHR := Lib.hid hR
  have HHQ := Lib.hid hq
  rw [hv] at hm
  clear HQ h hfo hg f hR hq hcell
  go_enter Try.func41, Try.ntmps41
  go_wp2_with fail
  have hbl := Blk.new w 65 [.int .i64 3, .int .i64 i, .int .i64 a, .int .i64 b, .int .i64 c]
  have hm2 := (World.cell?_alloc_lt w (.cells #[.int .i64 3, .int .i64 i, .int .i64 a, .int .i64 b, .int .i64 c] 65) _ hl0).trans hm
  have hc2 := (World.cell?_alloc_lt w (.cells #[.int .i64 3, .int .i64 i, .int .i64 a, .int .i64 b, .int .i64 c] 65) _ hl1).trans hcell1
  have hbA := ((Below.refl w.heap.size w).alloc (Nat.le_refl _) (.cells #[.int .i64 3, .int .i64 i, .int .i64 a, .int .i64 b, .int .i64 c] 65))
  have ha0 := hbl.cell 0
  have ha1 := hbl.cell 1
  have ha2 := hbl.cell 2
  have ha3 := hbl.cell 3
  have ha4 := hbl.cell 4
  simp only [List.getElem?_cons_zero, List.getElem?_cons_succ] at ha0 ha1 ha2 ha3 ha4
  have HBl := Lib.hid hbl
  clear hm hcell1 hbl
  generalize w.alloc (.cells #[.int .i64 3, .int .i64 i, .int .i64 a, .int .i64 b, .int .i64 c] 65) = wA at *
  refine wp_region_still_tail 8 (by kernel_rfl) (by kernel_rfl) ?_
  simp only [List.take_succ_cons, List.take_zero, List.drop_succ_cons, List.drop_zero]
  iterate 8 still_step
  refine wpStill_nil ?_
  change wpList _ _ _ _ _ wA.drew
  have HBA := Lib.hid hbA.drew
  have HBl2 := Lib.hid (show Blk wA.drew w.heap.size 65 _ from HBl.out)
  clear hm2 hc2 HBl hbA ha0 ha1 ha2 ha3 ha4
  generalize wA.drew = wz at *
  have ha0 := HBl2.out.cell 0
  have ha1 := HBl2.out.cell 1
  have ha2 := HBl2.out.cell 2
  have ha3 := HBl2.out.cell 3
  have ha4 := HBl2.out.cell 4
  simp only [List.getElem?_cons_zero, List.getElem?_cons_succ] at ha0 ha1 ha2 ha3 ha4
  have HZ := Lib.hid (HH.out.below HBA.out)
  have HGZ := Lib.hid (gstep_below HG.out HBA.out).gate
  have hbBz : B ≤ wz.heap.size := Nat.le_trans hbB HBA.out.size
  have HV := Lib.hid hv
  clear hv
  have hO : ((d.fields.getD i []).map (rp rs)).length = (d.fields.getD i []).length := by simp
  have hm3 : wz.cell? ⟨m, 0, none⟩ = some (.slice (some ⟨b0, 0, none⟩) rs.length k0) := by rw [HZ.out.made.blk.cell, HV.out]; rfl
  go_wp2_with fail
  have HZ2 := Lib.hid (HZ.out.below (Below.refl wz.heap.size wz).drew)
  have HG2 := Lib.hid (gstep_below HGZ.out (Below.refl wz.heap.size wz).drew).gate
  have HBA2 := Lib.hid HBA.out.drew
  obtain ⟨A3, k3, hv3, hr3, _⟩ := owns_slice HZ2.out.made.o3
  have hX := info_int B g ks R X wz.drew HZ2.out.stage.rep HG2.out hbBz hl q _ HHR.out
  have hp1 : Ok X (ip fs xs i (d.infos.getD i 0)) := HZ2.out.stage.rep.okInfo HHR.out
  have hp2 : idx (xs.map some) (ip fs xs i (d.infos.getD i 0)) = (doD d 3 i a b c).1 := by
    have hfo := HF.out
    have hn := hfo.hI _ (getD_mem (show i < d.infos.length by rw [hfo.e1]; exact hi) 0)
    rw [idx_ip HZ.out.stage.ndx (by omega) (by have := HZ.out.hr; have := HZ.out.stage.len; omega) hn.1 (by have := HZ.out.hx; omega)]
    rfl
  simp only at hX
  generalize ip fs xs i (d.infos.getD i 0) = p at *
  have HX := Lib.hid hX
  have HP1 := Lib.hid hp1
  have HP2 := Lib.hid hp2
  have hm4 : wz.drew.cell? ⟨m, 2, none⟩ = some (.slice A3 xs.length k3) := by rw [HZ2.out.made.blk.cell, hv3]; rfl
  have HV3 := Lib.hid hv3
  clear hX hp1 hp2 hv3 hr3 hO
  go_region_held3 (fun w' => w'.cell? ⟨m, 2, none⟩ = some (.slice A3 xs.length k3)) (assumption) (first
    | (go_at_call 71; refine HX.out.mono ?_; rintro e w1 ⟨rfl, H1, H2⟩
       have HL := Lib.hid (HZ2.out.same HG2.out H1 H2); have H1' := Lib.hid H1
       have hm5 : w1.cell? ⟨m, 2, none⟩ = some (.slice A3 xs.length k3) := by rw [HL.out.made.blk.cell, HV3.out]; rfl
       clear H1 H2)
    | (go_at_call 96
       refine (index_xs HL.out HV3.out (by have := HL.out.hx; have := HF.out.l3; omega) _ HP1.out).mono ?_
       rw [HP2.out]
       rintro e w2 ⟨rfl, rfl⟩))
  go_wp2
  exact HQ'.out _ _ ⟨rfl, act_end HG.out HBA2.out H1'.out (fun _ h => h.elim), R, X, HL.out⟩

set_option maxHeartbeats 400000 in
set_option maxRecDepth 100000 in
theorem do_4 {d : WD} {B m : Nat} {w : World} {R : Nat → Option RecO} {X : Nat → Option ScxO} {rs fs xs : List Nat} {v1 v2 v3 : Value} {g : Option Nat} {ks : List Int} (h : LiveAt d B m w R X rs fs xs v1 v2 v3) (hfo : d.Form) (hg : GAtI w B g ks) (hbB : B ≤ w.heap.size) (hl : ks.length ≤ 1000000000)
    (i : Nat) (a b c : Int) (f : d.Fit 4 i a b c) :
    Calls Try.prog 41 #[.pointer (some ⟨m, 0, none⟩), gvI g, .agg #[.int .i64 4, .int .i64 i, .int .i64 a, .int .i64 b, .int .i64 c]] w fun e w' =>
      e = .returned (.int .i64 (doD d 4 i a b c).1) ∧ StepI B g w w' (ks ++ [kd 4]) (Thing B w) ∧ ∃ R' X', LiveAt (doD d 4 i a b c).2 B m w' R' X' rs fs xs v1 v2 v3 := by
  refine calls_hide fun Q HQ => ?_
  have HQ' := Lib.hid HQ
  have hi : i < d.fields.length := by have := f.row (by omega); simpa using this
  obtain ⟨q, fb, hq, hR, hfb⟩ := h.row hi
  obtain ⟨b0, k0, hv, hcell⟩ := owns_at h.made.o1 (j := i) (by have := h.hr; omega)
  rw [hq] at hcell
  have hcell1 : _ = some (Value.pointer (some ⟨q, 0, none⟩)) := hcell
  have hm : w.cell? ⟨m, 0, none⟩ = some v1 := by rw [h.made.blk.cell]; rfl
  have hrl : i < rs.length := by have := h.hr; omega
  have hl0 := World.block_lt_of_cell? w _ hm
  have hl1 := World.block_lt_of_cell? w _ hcell
  have HH := Lib.hid h
  have HF := Lib.hid hfo
  have HG := Lib.hid hg
  have HFi := Lib.hid f
  have HHR := Lib.hid hR
  have HHQ := Lib.hid hq
  rw [hv] at hm
  clear HQ h hfo hg f hR hq hcell
  go_enter Try.func41, Try.ntmps41
  go_wp2_with fail
  have hbl := Blk.new w 65 [.int .i64 4, .int .i64 i, .int .i64 a, .int .i64 b, .int .i64 c]
  have hm2 := (World.cell?_alloc_lt w (.cells #[.int .i64 4, .int .i64 i, .int .i64 a, .int .i64 b, .int .i64 c] 65) _ hl0).trans hm
  have hc2 := (World.cell?_alloc_lt w (.cells #[.int .i64 4, .int .i64 i, .int .i64 a, .int .i64 b, .int .i64 c] 65) _ hl1).trans hcell1
  have hbA := ((Below.refl w.heap.size w).alloc (Nat.le_refl _) (.cells #[.int .i64 4, .int .i64 i, .int .i64 a, .int .i64 b, .int .i64 c] 65))
  have ha0 := hbl.cell 0
  have ha1 := hbl.cell 1
  have ha2 := hbl.cell 2
  have ha3 := hbl.cell 3
  have ha4 := hbl.cell 4
  simp only [List.getElem?_cons_zero, List.getElem?_cons_succ] at ha0 ha1 ha2 ha3 ha4
  have HBl := Lib.hid hbl
  clear hm hcell1 hbl
  generalize w.alloc (.cells #[.int .i64 4, .int .i64 i, .int .i64 a, .int .i64 b, .int .i64 c] 65) = wA at *
  refine wp_region_still_tail 8 (by kernel_rfl) (by kernel_rfl) ?_
  simp only [List.take_succ_cons, List.take_zero, List.drop_succ_cons, List.drop_zero]
  iterate 8 still_step
  refine wpStill_nil ?_
  change wpList _ _ _ _ _ wA.drew
  have HBA := Lib.hid hbA.drew
  have HBl2 := Lib.hid (show Blk wA.drew w.heap.size 65 _ from HBl.out)
  clear hm2 hc2 HBl hbA ha0 ha1 ha2 ha3 ha4
  generalize wA.drew = wz at *
  have ha0 := HBl2.out.cell 0
  have ha1 := HBl2.out.cell 1
  have ha2 := HBl2.out.cell 2
  have ha3 := HBl2.out.cell 3
  have ha4 := HBl2.out.cell 4
  simp only [List.getElem?_cons_zero, List.getElem?_cons_succ] at ha0 ha1 ha2 ha3 ha4
  have HZ := Lib.hid (HH.out.below HBA.out)
  have HGZ := Lib.hid (gstep_below HG.out HBA.out).gate
  have hbBz : B ≤ wz.heap.size := Nat.le_trans hbB HBA.out.size
  have HV := Lib.hid hv
  clear hv
  have hO : ((d.fields.getD i []).map (rp rs)).length = (d.fields.getD i []).length := by simp
  have hm3 : wz.cell? ⟨m, 0, none⟩ = some (.slice (some ⟨b0, 0, none⟩) rs.length k0) := by rw [HZ.out.made.blk.cell, HV.out]; rfl
  go_wp2_with fail
  have HZ2 := Lib.hid (HZ.out.below (Below.refl wz.heap.size wz).drew)
  have HG2 := Lib.hid (gstep_below HGZ.out (Below.refl wz.heap.size wz).drew).gate
  have HBA2 := Lib.hid HBA.out.drew
  have hB := HFi.out.b1 rfl
  have hfl : fs.length = rs.length := HZ.out.stage.len
  obtain ⟨sc, hsc⟩ : ∃ s, xs[c.toNat]? = some s := ⟨xs[c.toNat]'(by have := HZ.out.hx; omega), List.getElem?_eq_getElem _⟩
  have hipc : ip fs xs i c = some sc := by unfold ip; rw [if_neg (by omega)]; exact hsc
  have hX := freeze_int B g ks R X wz.drew HZ2.out.stage.rep HG2.out hbBz hl q _ HHR.out (ip fs xs i b) (ip fs xs i c) (by unfold ip; split; exact HZ2.out.stage.okF _; exact HZ2.out.stage.okX _) (by unfold ip; split; exact HZ2.out.stage.okF _; exact HZ2.out.stage.okX _)
  have HLB := Lib.hid (calls_swap (live_info wz.drew B m rs fs xs _ _ _ HZ2.out.made i b (by omega) (by omega) hB.1.1 (by have := HZ.out.hx; have := hB.1.2; omega)))
  have hn := HF.out.hI _ (getD_mem (show i < d.infos.length by rw [HF.out.e1]; exact hi) 0)
  have hp2 : bitI (decide (ip fs xs i (d.infos.getD i 0) = ip fs xs i b)) = (doD d 4 i a b c).1 ∧ ∀ k : Nat, ip fs xs k ((doD d 4 i a b c).2.infos.getD k 0) = if k = i then (if ip fs xs i (d.infos.getD i 0) = ip fs xs i b then ip fs xs i c else ip fs xs i (d.infos.getD i 0)) else ip fs xs k (d.infos.getD k 0) := by
    have hl2 := HZ.out.hx
    have e : ip fs xs i (d.infos.getD i 0) = ip fs xs i b ↔ d.infos.getD i 0 = b := ip_inj HZ.out.stage.ndx (by omega) (by omega) hn.1 (by omega) hB.1.1 (by have := hB.1.2; omega)
    simp only [e]
    simp only [doD, show ¬ (4 : Int) = 1 by decide, show ¬ (4 : Int) = 2 by decide, show ¬ (4 : Int) = 3 by decide, if_false, if_true, Int.toNat_natCast]
    by_cases e2 : d.infos.getD i 0 = b
    · simp only [e2, if_true, decide_true]
      exact ⟨rfl, fun k => by rw [getD_set _ _ _ _ _ (by rw [HF.out.e1]; exact hi)]; split <;> simp_all⟩
    · simp only [e2, if_false, decide_false]
      exact ⟨rfl, fun k => by split <;> simp_all⟩
  have hl3 : (doD d 4 i a b c).2.fields = d.fields ∧ (doD d 4 i a b c).2.marks = d.marks ∧ (doD d 4 i a b c).2.states = d.states ∧ (doD d 4 i a b c).2.frozen = d.frozen := by
    simp only [doD, show ¬ (4 : Int) = 1 by decide, show ¬ (4 : Int) = 2 by decide, show ¬ (4 : Int) = 3 by decide, if_false, if_true]
    split <;> simp
  obtain ⟨b3, k3, hv3, hcell3⟩ := owns_at HZ2.out.made.o3 (j := c.toNat) (by have := HZ.out.hx; omega)
  rw [hsc] at hcell3
  have hcell4 : wz.drew.cell? ⟨b3, c.toNat, none⟩ = some (Value.pointer (some ⟨sc, 0, none⟩)) := hcell3
  have hm4 : wz.drew.cell? ⟨m, 2, none⟩ = some (.slice (some ⟨b3, 0, none⟩) xs.length k3) := by rw [HZ2.out.made.blk.cell, hv3]; rfl
  have hcl : c < xs.length := by have := HZ.out.hx; have := hB.2.2; omega
  have hc0 := hB.2.1
  rw [hipc] at hX hp2
  simp only at hX
  have HD2 := Lib.hid hp2
  have HL3 := Lib.hid hl3
  have HX := Lib.hid hX
  clear hp2 hl3 hX hB hn hO hcell3 hv3 hsc hipc hfl
  have hcell5 : wz.cell? ⟨b3, c.toNat, none⟩ = some (Value.pointer (some ⟨sc, 0, none⟩)) := hcell4
  have hm5 : wz.cell? ⟨m, 2, none⟩ = some (.slice (some ⟨b3, 0, none⟩) xs.length k3) := hm4
  clear hcell4 hm4
  refine wp_region_still_tail 16 (by kernel_rfl) (by kernel_rfl) ?_
  simp only [List.take_succ_cons, List.take_zero, List.drop_succ_cons, List.drop_zero]
  iterate 7 still_step
  still_call (HLB.out)
  iterate 8 still_step
  refine wpStill_nil ?_
  change wpList _ _ _ _ _ wz.drew
  clear ha0 ha1 ha2 ha3 ha4 hm3 HLB hcell5 hm5
  generalize wz.drew = wy at *
  go_wp2_with fail
  refine HX.out.mono ?_
  rintro e w1 ⟨rfl, H1, H2⟩
  have HL := Lib.hid (HZ2.out.setRec (d' := (doD d 4 i a b c).2) HG2.out HHQ.out HHR.out (.inl rfl) H1 H2 (by rw [HL3.out.1]) HL3.out.2.2.1 HL3.out.2.2.2 (fun k => by rw [HL3.out.1]; split <;> simp_all) HD2.out.2 (fun k => by rw [HL3.out.2.1]; split <;> simp_all))
  have HEND := Lib.hid (act_end HG.out HBA2.out H1 (fun k h => h ▸ (HZ2.out.thingR HHQ.out HHR.out).1))
  have HD3 := Lib.hid HD2.out.1
  clear H1 H2 HX HD2 HL3
  generalize decide (ip fs xs i (d.infos.getD i 0) = ip fs xs i b) = dd at *
  go_wp2_with fail
  refine (bit_of _ _).mono ?_
  rw [HD3.out]
  rintro e w2 ⟨rfl, rfl⟩
  go_wp2
  exact HQ'.out _ _ ⟨rfl, HEND.out, _, _, HL.out⟩

set_option maxHeartbeats 400000 in
set_option maxRecDepth 100000 in
theorem do_5 {d : WD} {B m : Nat} {w : World} {R : Nat → Option RecO} {X : Nat → Option ScxO} {rs fs xs : List Nat} {v1 v2 v3 : Value} {g : Option Nat} {ks : List Int} (h : LiveAt d B m w R X rs fs xs v1 v2 v3) (hfo : d.Form) (hg : GAtI w B g ks) (hbB : B ≤ w.heap.size) (hl : ks.length ≤ 1000000000)
    (i : Nat) (a b c : Int) (f : d.Fit 5 i a b c) :
    Calls Try.prog 41 #[.pointer (some ⟨m, 0, none⟩), gvI g, .agg #[.int .i64 5, .int .i64 i, .int .i64 a, .int .i64 b, .int .i64 c]] w fun e w' =>
      e = .returned (.int .i64 (doD d 5 i a b c).1) ∧ StepI B g w w' (ks ++ [kd 5]) (Thing B w) ∧ ∃ R' X', LiveAt (doD d 5 i a b c).2 B m w' R' X' rs fs xs v1 v2 v3 := by
  refine calls_hide fun Q HQ => ?_
  have HQ' := Lib.hid HQ
  have hi : i < d.fields.length := by have := f.row (by omega); simpa using this
  obtain ⟨q, fb, hq, hR, hfb⟩ := h.row hi
  obtain ⟨b0, k0, hv, hcell⟩ := owns_at h.made.o1 (j := i) (by have := h.hr; omega)
  rw [hq] at hcell
  have hcell1 : _ = some (Value.pointer (some ⟨q, 0, none⟩)) := hcell
  have hm : w.cell? ⟨m, 0, none⟩ = some v1 := by rw [h.made.blk.cell]; rfl
  have hrl : i < rs.length := by have := h.hr; omega
  have hl0 := World.block_lt_of_cell? w _ hm
  have hl1 := World.block_lt_of_cell? w _ hcell
  have HH := Lib.hid h
  have HF := Lib.hid hfo
  have HG := Lib.hid hg
  have HFi := Lib.hid f
  have HHR := Lib.hid hR
  have HHQ := Lib.hid hq
  rw [hv] at hm
  clear HQ h hfo hg f hR hq hcell
  go_enter Try.func41, Try.ntmps41
  go_wp2_with fail
  have hbl := Blk.new w 65 [.int .i64 5, .int .i64 i, .int .i64 a, .int .i64 b, .int .i64 c]
  have hm2 := (World.cell?_alloc_lt w (.cells #[.int .i64 5, .int .i64 i, .int .i64 a, .int .i64 b, .int .i64 c] 65) _ hl0).trans hm
  have hc2 := (World.cell?_alloc_lt w (.cells #[.int .i64 5, .int .i64 i, .int .i64 a, .int .i64 b, .int .i64 c] 65) _ hl1).trans hcell1
  have hbA := ((Below.refl w.heap.size w).alloc (Nat.le_refl _) (.cells #[.int .i64 5, .int .i64 i, .int .i64 a, .int .i64 b, .int .i64 c] 65))
  have ha0 := hbl.cell 0
  have ha1 := hbl.cell 1
  have ha2 := hbl.cell 2
  have ha3 := hbl.cell 3
  have ha4 := hbl.cell 4
  simp only [List.getElem?_cons_zero, List.getElem?_cons_succ] at ha0 ha1 ha2 ha3 ha4
  have HBl := Lib.hid hbl
  clear hm hcell1 hbl
  generalize w.alloc (.cells #[.int .i64 5, .int .i64 i, .int .i64 a, .int .i64 b, .int .i64 c] 65) = wA at *
  refine wp_region_still_tail 8 (by kernel_rfl) (by kernel_rfl) ?_
  simp only [List.take_succ_cons, List.take_zero, List.drop_succ_cons, List.drop_zero]
  iterate 8 still_step
  refine wpStill_nil ?_
  change wpList _ _ _ _ _ wA.drew
  have HBA := Lib.hid hbA.drew
  have HBl2 := Lib.hid (show Blk wA.drew w.heap.size 65 _ from HBl.out)
  clear hm2 hc2 HBl hbA ha0 ha1 ha2 ha3 ha4
  generalize wA.drew = wz at *
  have ha0 := HBl2.out.cell 0
  have ha1 := HBl2.out.cell 1
  have ha2 := HBl2.out.cell 2
  have ha3 := HBl2.out.cell 3
  have ha4 := HBl2.out.cell 4
  simp only [List.getElem?_cons_zero, List.getElem?_cons_succ] at ha0 ha1 ha2 ha3 ha4
  have HZ := Lib.hid (HH.out.below HBA.out)
  have HGZ := Lib.hid (gstep_below HG.out HBA.out).gate
  have hbBz : B ≤ wz.heap.size := Nat.le_trans hbB HBA.out.size
  have HV := Lib.hid hv
  clear hv
  have hO : ((d.fields.getD i []).map (rp rs)).length = (d.fields.getD i []).length := by simp
  have hm3 : wz.cell? ⟨m, 0, none⟩ = some (.slice (some ⟨b0, 0, none⟩) rs.length k0) := by rw [HZ.out.made.blk.cell, HV.out]; rfl
  go_wp2_with fail
  have HZ2 := Lib.hid (HZ.out.below (Below.refl wz.heap.size wz).drew)
  have HG2 := Lib.hid (gstep_below HGZ.out (Below.refl wz.heap.size wz).drew).gate
  have HBA2 := Lib.hid HBA.out.drew
  have HX := Lib.hid (marked_int B g ks R X wz HZ.out.stage.rep HGZ.out hbBz hl q _ HHR.out)
  clear ha0 ha1 ha2 ha3 ha4 hm3
  refine HX.out.mono ?_
  rintro e w1 ⟨rfl, H1, H2⟩
  have HL := Lib.hid (HZ.out.same HGZ.out H1 H2)
  have H1' := Lib.hid H1
  clear H1 H2 HX
  have HP2 := Lib.hid (show bitI (d.marks.getD i false) = (doD d 5 i a b c).1 from rfl)
  generalize d.marks.getD i false = mk at *
  go_wp2_with fail
  refine (bit_of _ _).mono ?_
  rw [HP2.out]
  rintro e w2 ⟨rfl, rfl⟩
  go_wp2
  exact HQ'.out _ _ ⟨rfl, act_end HG.out HBA.out H1'.out (fun _ h => h.elim), R, X, HL.out⟩

set_option maxHeartbeats 400000 in
set_option maxRecDepth 100000 in
theorem do_6 {d : WD} {B m : Nat} {w : World} {R : Nat → Option RecO} {X : Nat → Option ScxO} {rs fs xs : List Nat} {v1 v2 v3 : Value} {g : Option Nat} {ks : List Int} (h : LiveAt d B m w R X rs fs xs v1 v2 v3) (hfo : d.Form) (hg : GAtI w B g ks) (hbB : B ≤ w.heap.size) (hl : ks.length ≤ 1000000000)
    (i : Nat) (a b c : Int) (f : d.Fit 6 i a b c) :
    Calls Try.prog 41 #[.pointer (some ⟨m, 0, none⟩), gvI g, .agg #[.int .i64 6, .int .i64 i, .int .i64 a, .int .i64 b, .int .i64 c]] w fun e w' =>
      e = .returned (.int .i64 (doD d 6 i a b c).1) ∧ StepI B g w w' (ks ++ [kd 6]) (Thing B w) ∧ ∃ R' X', LiveAt (doD d 6 i a b c).2 B m w' R' X' rs fs xs v1 v2 v3 := by
  refine calls_hide fun Q HQ => ?_
  have HQ' := Lib.hid HQ
  have hi : i < d.fields.length := by have := f.row (by omega); simpa using this
  obtain ⟨q, fb, hq, hR, hfb⟩ := h.row hi
  obtain ⟨b0, k0, hv, hcell⟩ := owns_at h.made.o1 (j := i) (by have := h.hr; omega)
  rw [hq] at hcell
  have hcell1 : _ = some (Value.pointer (some ⟨q, 0, none⟩)) := hcell
  have hm : w.cell? ⟨m, 0, none⟩ = some v1 := by rw [h.made.blk.cell]; rfl
  have hrl : i < rs.length := by have := h.hr; omega
  have hl0 := World.block_lt_of_cell? w _ hm
  have hl1 := World.block_lt_of_cell? w _ hcell
  have HH := Lib.hid h
  have HF := Lib.hid hfo
  have HG := Lib.hid hg
  have HFi := Lib.hid f
  have HHR := Lib.hid hR
  have HHQ := Lib.hid hq
  rw [hv] at hm
  clear HQ h hfo hg f hR hq hcell
  go_enter Try.func41, Try.ntmps41
  go_wp2_with fail
  have hbl := Blk.new w 65 [.int .i64 6, .int .i64 i, .int .i64 a, .int .i64 b, .int .i64 c]
  have hm2 := (World.cell?_alloc_lt w (.cells #[.int .i64 6, .int .i64 i, .int .i64 a, .int .i64 b, .int .i64 c] 65) _ hl0).trans hm
  have hc2 := (World.cell?_alloc_lt w (.cells #[.int .i64 6, .int .i64 i, .int .i64 a, .int .i64 b, .int .i64 c] 65) _ hl1).trans hcell1
  have hbA := ((Below.refl w.heap.size w).alloc (Nat.le_refl _) (.cells #[.int .i64 6, .int .i64 i, .int .i64 a, .int .i64 b, .int .i64 c] 65))
  have ha0 := hbl.cell 0
  have ha1 := hbl.cell 1
  have ha2 := hbl.cell 2
  have ha3 := hbl.cell 3
  have ha4 := hbl.cell 4
  simp only [List.getElem?_cons_zero, List.getElem?_cons_succ] at ha0 ha1 ha2 ha3 ha4
  have HBl := Lib.hid hbl
  clear hm hcell1 hbl
  generalize w.alloc (.cells #[.int .i64 6, .int .i64 i, .int .i64 a, .int .i64 b, .int .i64 c] 65) = wA at *
  refine wp_region_still_tail 8 (by kernel_rfl) (by kernel_rfl) ?_
  simp only [List.take_succ_cons, List.take_zero, List.drop_succ_cons, List.drop_zero]
  iterate 8 still_step
  refine wpStill_nil ?_
  change wpList _ _ _ _ _ wA.drew
  have HBA := Lib.hid hbA.drew
  have HBl2 := Lib.hid (show Blk wA.drew w.heap.size 65 _ from HBl.out)
  clear hm2 hc2 HBl hbA ha0 ha1 ha2 ha3 ha4
  generalize wA.drew = wz at *
  have ha0 := HBl2.out.cell 0
  have ha1 := HBl2.out.cell 1
  have ha2 := HBl2.out.cell 2
  have ha3 := HBl2.out.cell 3
  have ha4 := HBl2.out.cell 4
  simp only [List.getElem?_cons_zero, List.getElem?_cons_succ] at ha0 ha1 ha2 ha3 ha4
  have HZ := Lib.hid (HH.out.below HBA.out)
  have HGZ := Lib.hid (gstep_below HG.out HBA.out).gate
  have hbBz : B ≤ wz.heap.size := Nat.le_trans hbB HBA.out.size
  have HV := Lib.hid hv
  clear hv
  have hO : ((d.fields.getD i []).map (rp rs)).length = (d.fields.getD i []).length := by simp
  have hm3 : wz.cell? ⟨m, 0, none⟩ = some (.slice (some ⟨b0, 0, none⟩) rs.length k0) := by rw [HZ.out.made.blk.cell, HV.out]; rfl
  go_wp2_with fail
  have HX := Lib.hid (mark_int B g ks R X wz HZ.out.stage.rep HGZ.out hbBz hl q _ HHR.out)
  clear ha0 ha1 ha2 ha3 ha4 hm3
  refine HX.out.mono ?_
  rintro e w1 ⟨rfl, H1, H2⟩
  have hfo := HF.out
  have HL := Lib.hid (HZ.out.setRec (d' := { d with marks := d.marks.set i true }) HGZ.out HHQ.out HHR.out (.inl rfl) H1 H2 rfl rfl rfl (fun k => by split <;> simp_all) (fun k => by split <;> simp_all) (fun k => getD_set _ _ _ _ _ (by rw [hfo.e2]; exact hi)))
  have H1' := Lib.hid H1
  clear H1 H2 HX
  go_wp2
  exact HQ'.out _ _ ⟨rfl, act_end HG.out HBA.out H1'.out (fun k h => h ▸ (HZ.out.thingR HHQ.out HHR.out).1), _, _, HL.out⟩

end Go.Proofs.Ytphhdmopfmelbaa
