/- Joined texts: Law12H. -/
import Derived.Test.YtphhdmopfmelbaaM4
import Derived.Test.YtphhdmopfmelbaaM6
import Derived.Test.YtphhdmopfmelbaaM7
import Derived.Test.YtphhdmopfmelbaaM8

/- larchlaw12: RecordMemory. Written by p_memory.py. -/
namespace Go.Proofs.Ytphhdmopfmelbaa
open Go.RowKit Go.Proofs.YtphhdmopfmelbaaW.PrintWords Go.Proofs.YtphhdmopfmelbaaW.PrintLast
set_option linter.unusedVariables false
set_option linter.unusedSimpArgs false

/-- What is read alone behind the statement's beginning. -/
structure MemRO (pb g3 g6 : Nat) (cs : List Value) (vw : WV) (d : WD) (ve : WV) (D : WD) (A5 A : Option Addr) (l : List ActD) (Ao Ak : Option Addr) (la lk : List Int) (v1 : WV) (w : World) : Prop where
  par : Blk w pb TCA cs
  bw : Blk w g3 TWD (vw.cells d)
  be : Blk w g6 TRW (ve.cells D)
  rw_ : vw.Reads w d
  re : ve.Reads w D
  ac : ActsAt w A5 (l ++ [⟨77, 0, 0, 0, 0⟩])
  ro : Row1 w Ao la.length (la.map (Value.int .i64))
  rk : Row1 w Ak lk.length (lk.map (Value.int .i64))
  rx : v1.Reads w d
  ax : ActsAt w A l
theorem MemRO.below {pb g3 g6 : Nat} {cs : List Value} {vw : WV} {d : WD} {ve : WV} {D : WD} {A5 A : Option Addr} {l : List ActD} {Ao Ak : Option Addr} {la lk : List Int} {v1 : WV} {w w' : World} (h : MemRO pb g3 g6 cs vw d ve D A5 A l Ao Ak la lk v1 w) (hb : Below w.heap.size w w') : MemRO pb g3 g6 cs vw d ve D A5 A l Ao Ak la lk v1 w' :=
  have hf : Fr w w' (fun _ => False) := Fr.of_below0 hb
  ⟨hf.blk h.par id, hf.blk h.bw id, hf.blk h.be id, h.rw_.below hb, h.re.below hb, h.ac.below hb, h.ro.below hb, h.rk.below hb, h.rx.below hb, h.ax.below hb⟩

theorem seen_small (d : WD) (l : List ActD) (hl : l.length ≤ 1100) : (seenA d l).length ≤ 1100 ∧ (seenK d l).length ≤ 1100 ∧ (seenW d l).fields.length ≤ 64 ∧ (seenW d l).infos.length ≤ 64 ∧ (seenW d l).marks.length ≤ 64 ∧ (seenW d l).states.length ≤ 64 ∧ (seenW d l).frozen.length ≤ 64 ∧ ∀ r ∈ (seenW d l).fields, r.length ≤ 64 := by
  unfold seenA seenK seenW
  by_cases hp : playE d l = 0
  · rw [if_pos hp, if_pos hp, if_pos hp]
    have hf := (runD_form (Good.of hp).Form l (Good.of hp).fits).1
    have h1 := hf.l0
    have h2 := hf.l3
    have h3 := hf.e1
    have h4 := hf.e2
    have h5 := hf.e4
    exact ⟨by rw [runD_length]; exact hl, by simpa [kinds] using hl, h1, by omega, by omega, h2, by omega, hf.l1⟩
  · rw [if_neg hp, if_neg hp, if_neg hp]
    exact ⟨by simp, by simp, by simp, by simp, by simp, by simp, by simp, fun r hr => by simp at hr⟩

theorem seen_len (d : WD) (l : List ActD) : (seenA d l).length = (seenK d l).length := by
  unfold seenA seenK
  by_cases hp : playE d l = 0
  · rw [if_pos hp, if_pos hp, runD_length]; simp [kinds]
  · rw [if_neg hp, if_neg hp]

set_option maxHeartbeats 40000000 in
set_option maxRecDepth 100000 in
theorem law_memory (w : World) (v : WV) (d : WD) (hv : v.Reads w d) (A : Option Addr) (c : Nat) (l : List ActD) (ha : ActsAt w A l) (hlc : l.length ≤ c) (N M : Int) (hN : -9223372036854775808 ≤ N ∧ N ≤ 9223372036854775807)
    (hl : CaseLen d l) (hr : ∀ r ∈ d.fields, r.length ≤ 1000000000000000) :
    Calls Try.prog 7 #[caseV v d A c l N M] w fun e w' => e = .returned (.bool true) ∧ Below w.heap.size w w' := by
  refine calls_hide fun Q HQ => ?_
  have HQ' := Lib.hid HQ
  have hba := (Below.refl w.heap.size w).alloc (Nat.le_refl _) (.cells (caseC v d A c l.length N M).toArray TCA)
  have HBA := Lib.hid hba
  have HB1 := Lib.hid (Blk.new w TCA (caseC v d A c l.length N M))
  have HV := Lib.hid hv
  have HA := Lib.hid (show ∀ w'', Below w.heap.size w w'' → ActsAt w'' A (l.take 1100) from fun w'' hb => acts_take (ha.below hb) 1100)
  have HL := Lib.hid hl
  have HR := Lib.hid hr
  have HLL := Lib.hid (less_len hl hr)
  clear HQ hv ha hba hl hr
  go_enter Try.func7, Try.ntmps7
  go_wp2_with fail
  generalize w.alloc (.cells (caseC v d A c l.length N M).toArray TCA) = wA at *
  obtain ⟨pb, hpb⟩ : ∃ pb, pb = w.heap.size := ⟨_, rfl⟩
  rw [← hpb]
  have HPB := Lib.hid hpb
  rw [← hpb] at HB1
  clear hpb
  refine (law_fixed wA).mono ?_
  rintro e w1 ⟨rfl, hbl⟩
  have HBW := Lib.hid (HBA.out.trans (hbl.mono HBA.out.size))
  have HB2 := Lib.hid ((Fr.of_below0 (S := fun _ => False) hbl).blk HB1.out id)
  clear hbl HB1 HBA
  have hq0 := HB2.out.cell 0
  have hq1 := HB2.out.cell 1
  have hq2 := HB2.out.cell 2
  have hq3 := HB2.out.cell 3
  have hq4 := HB2.out.cell 4
  have hq5 := HB2.out.cell 5
  have hq6 := HB2.out.cell 6
  have hq7 := HB2.out.cell 7
  -- have hf0 := HB2.out.free ⟨pb, 0, none⟩ rfl
  -- have hf1 := HB2.out.free ⟨pb, 1, none⟩ rfl
  -- have hf2 := HB2.out.free ⟨pb, 2, none⟩ rfl
  -- have hf3 := HB2.out.free ⟨pb, 3, none⟩ rfl
  -- have hf4 := HB2.out.free ⟨pb, 4, none⟩ rfl
  -- have hf5 := HB2.out.free ⟨pb, 5, none⟩ rfl
  -- have hf6 := HB2.out.free ⟨pb, 6, none⟩ rfl
  -- have hf7 := HB2.out.free ⟨pb, 7, none⟩ rfl
  simp only [List.getElem?_cons_zero, List.getElem?_cons_succ] at hq0 hq1 hq2 hq3 hq4 hq5 hq6 hq7
  go_wp2_with fail
  refine (law_less w w1 HBW.out v d HV.out A c l hlc N M ⟨HL.out.1, by have := HL.out.2.1; omega, by have := HL.out.2.2.1; omega, HL.out.2.2.2.1, HL.out.2.2.2.2.1, HL.out.2.2.2.2.2⟩ HR.out).mono ?_
  rintro e w2 ⟨v1, rfl, hrd, hbl⟩
  have HBW2 := Lib.hid (HBW.out.trans (hbl.mono HBW.out.size))
  have HB3 := Lib.hid ((Fr.of_below0 (S := fun _ => False) hbl).blk HB2.out id)
  have HV2 := Lib.hid hrd
  have hl1 : (l.take 1100).length ≤ 1100 := by simp; omega
  have hlc1 : (l.take 1100).length ≤ c := by simp; omega
  have HSZ := Lib.hid (show pb < w1.heap.size from HB2.out.lt)
  clear hbl hrd HBW HB2 HV hlc HL HR hq0 hq1 hq2 hq3 hq4 hq5 hq6 hq7
  generalize l.take 1100 = l1 at *
  generalize lessD d = d1 at *
  have hq0 := HB3.out.cell 0
  have hq1 := HB3.out.cell 1
  have hq2 := HB3.out.cell 2
  have hq3 := HB3.out.cell 3
  have hq4 := HB3.out.cell 4
  have hq5 := HB3.out.cell 5
  have hq6 := HB3.out.cell 6
  have hq7 := HB3.out.cell 7
  have hf0 := HB3.out.free ⟨pb, 0, none⟩ rfl
  have hf1 := HB3.out.free ⟨pb, 1, none⟩ rfl
  have hf2 := HB3.out.free ⟨pb, 2, none⟩ rfl
  have hf3 := HB3.out.free ⟨pb, 3, none⟩ rfl
  have hf4 := HB3.out.free ⟨pb, 4, none⟩ rfl
  have hf5 := HB3.out.free ⟨pb, 5, none⟩ rfl
  have hf6 := HB3.out.free ⟨pb, 6, none⟩ rfl
  have hf7 := HB3.out.free ⟨pb, 7, none⟩ rfl
  simp only [List.getElem?_cons_zero, List.getElem?_cons_succ] at hq0 hq1 hq2 hq3 hq4 hq5 hq6 hq7
  have HBS := Lib.hid (res_endC rfl HB3.out (.slice v1.A0 d1.fields.length v1.c0) (.slice v1.A1 d1.infos.length v1.c1) (.slice v1.A2 d1.marks.length v1.c2) (.slice v1.A3 d1.states.length v1.c3) (.slice v1.A4 d1.frozen.length v1.c4) (.slice A l1.length c) (.int .i64 N) (.int .i64 M) _ rfl)
  go_wp2_with fail
  generalize (((((((w2.setCell ⟨pb, 0, none⟩ (.slice v1.A0 d1.fields.length v1.c0)).setCell ⟨pb, 1, none⟩ (.slice v1.A1 d1.infos.length v1.c1)).setCell ⟨pb, 2, none⟩ (.slice v1.A2 d1.marks.length v1.c2)).setCell ⟨pb, 3, none⟩ (.slice v1.A3 d1.states.length v1.c3)).setCell ⟨pb, 4, none⟩ (.slice v1.A4 d1.frozen.length v1.c4)).setCell ⟨pb, 5, none⟩ (.slice A l1.length c)).setCell ⟨pb, 6, none⟩ (.int .i64 N)).setCell ⟨pb, 7, none⟩ (.int .i64 M) = wB at *
  have HBB := Lib.hid (show Below w.heap.size w wB from HBW2.out.trans (HBS.out.2.below HBW2.out.size (fun k hk => by have := HPB.out; omega)))
  have HVB := Lib.hid (show ∀ w'', Below wB.heap.size wB w'' → v1.Reads w'' d1 from fun w'' hb => HV2.out w'' (HBB.out.trans (hb.mono HBB.out.size)) (fun k h1 h2 => by
    rw [hb.block k (Nat.lt_of_lt_of_le h2 HBS.out.2.size)]
    exact HBS.out.2.block k h2 (fun e => by have := HSZ.out; omega)))
  have HPB2 := Lib.hid (show Blk wB pb TCA (caseC v1 d1 A c l1.length N M) from HBS.out.1)
  clear HBS HB3 HV2 HBW2 HSZ hq0 hq1 hq2 hq3 hq4 hq5 hq6 hq7
  refine (law_world wB v1 d1 (HVB.out wB (Below.refl _ _)) HLL.out.1 HLL.out.2.1).mono ?_
  rintro e w2 ⟨vw, rfl, hrw, hbl⟩
  have HB2 := Lib.hid hbl
  have HRW2 := Lib.hid hrw
  have HPAR2 := Lib.hid ((Fr.of_below0 (S := fun _ => False) hbl).blk HPB2.out id)
  clear hbl hrw
  have hgz := Blk.new w2 TWD zero5
  have hr0 := hgz.cell 0
  have hr1 := hgz.cell 1
  have hr2 := hgz.cell 2
  have hr3 := hgz.cell 3
  have hr4 := hgz.cell 4
  have hf0 := hgz.free ⟨w2.heap.size, 0, none⟩ rfl
  have hf1 := hgz.free ⟨w2.heap.size, 1, none⟩ rfl
  have hf2 := hgz.free ⟨w2.heap.size, 2, none⟩ rfl
  have hf3 := hgz.free ⟨w2.heap.size, 3, none⟩ rfl
  have hf4 := hgz.free ⟨w2.heap.size, 4, none⟩ rfl
  simp only [List.getElem?_cons_zero, List.getElem?_cons_succ] at hr0 hr1 hr2 hr3 hr4
  have hp5 := HPAR2.out.cell 5
  simp only [List.getElem?_cons_zero, List.getElem?_cons_succ] at hp5
  clear hgz
  have hal := (Below.refl w2.heap.size w2).alloc (Nat.le_refl _) (.cells (vw.cells d1).toArray TWD)
  have hp9 := ((Fr.of_below0 (S := fun _ => False) hal).blk HPAR2.out id).cell 5
  simp only [List.getElem?_cons_zero, List.getElem?_cons_succ] at hp9
  go_wp2_with fail
  have HB3 := Lib.hid (HB2.out.trans (hal.mono HB2.out.size))
  have HRW3 := Lib.hid (HRW2.out.below hal)
  have HPAR3 := Lib.hid ((Fr.of_below0 (S := fun _ => False) hal).blk HPAR2.out id)
  have HBW3 := Lib.hid (Blk.new w2 TWD (vw.cells d1))
  have HG3 := Lib.hid (show wB.heap.size ≤ w2.heap.size from HB2.out.size)
  clear hal hr0 hr1 hr2 hr3 hr4 hf0 hf1 hf2 hf3 hf4 hp5 hp9 HB2 HRW2 HPAR2
  generalize w2.alloc (.cells (vw.cells d1).toArray TWD) = w3 at *
  generalize w2.heap.size = g3 at *
  refine (law_acts' w3 A c _ l1 rfl (HA.out _ (HBB.out.trans (HB3.out.mono HBB.out.size))) (by omega)).mono ?_
  rintro e w4 ⟨va, rfl, hown, hbl⟩
  have HB4 := Lib.hid (HB3.out.trans (hbl.mono HB3.out.size))
  have HRW4 := Lib.hid (HRW3.out.below hbl)
  have HPAR4 := Lib.hid ((Fr.of_below0 (S := fun _ => False) hbl).blk HPAR3.out id)
  have HBW4 := Lib.hid ((Fr.of_below0 (S := fun _ => False) hbl).blk HBW3.out id)
  have HOW4 := Lib.hid hown
  have HBL := Lib.hid hbl
  clear hown hbl HB4 HRW4 HPAR4 HBW4
  go_wp2_with (at_builtin; refine print_append_cells (w0 := w3) (W := w4) w3.heap.size rfl _ _ 51 TAC _ 5 40 rfl Try.underlying51 ainfo rfl (by decide) (by decide) va l1.length _ [.int .i64 77, .int .i64 0, .int .i64 0, .int .i64 0, .int .i64 0] rfl rfl rfl (by simp [Value.oneCell']) HOW4.out HBL.out HBL.out.size (by omega) ?_)
  intro v5 w5 hown hb5 hg5 hat5
  have HB5 := Lib.hid (HB3.out.trans (hb5.mono HB3.out.size))
  have HRW5 := Lib.hid (HRW3.out.below hb5)
  have HPAR5 := Lib.hid ((Fr.of_below0 (S := fun _ => False) hb5).blk HPAR3.out id)
  have HBW5 := Lib.hid ((Fr.of_below0 (S := fun _ => False) hb5).blk HBW3.out id)
  obtain ⟨A5, c5, rfl, hc5, hac5⟩ := own_acts (l := l1 ++ [⟨77, 0, 0, 0, 0⟩]) (by rw [List.flatMap_append]; exact hown)
  have HAC5 := Lib.hid hac5
  have hn5 : (l1 ++ [(⟨77, 0, 0, 0, 0⟩ : ActD)]).length = l1.length + 1 := by simp
  rw [hn5] at hc5 ⊢
  clear hown hb5 hg5 hat5 hac5 hn5 HB3 HRW3 HPAR3 HBW3 HOW4 HBL
  have hp0 := HPAR5.out.cell 0
  have hp1 := HPAR5.out.cell 1
  have hp2 := HPAR5.out.cell 2
  have hp3 := HPAR5.out.cell 3
  have hp4 := HPAR5.out.cell 4
  have hp5 := HPAR5.out.cell 5
  simp only [List.getElem?_cons_zero, List.getElem?_cons_succ] at hp0 hp1 hp2 hp3 hp4 hp5
  go_wp2_with fail
  refine (ref_Play w5 v1 d1 (HVB.out w5 HB5.out) HLL.out.2.2.1 HLL.out.2.2.2.1 HLL.out.2.2.2.2.1 A c l1 (HA.out _ (HBB.out.trans (HB5.out.mono HBB.out.size))) (by omega)).mono ?_
  rintro e w6 hpp
  obtain ⟨hbl, v6, rfl, ov6, kv6, fv6, iv6, mv6, sv6, zv6, bs6, rfl, hout⟩ := hpp.seen
  obtain ⟨ve, rfl, rfl, rfl, rfl, rfl, hre⟩ := hout.wld.reads
  obtain ⟨Ao6, co6, rfl, hr6, _⟩ := owns_slice hout.out
  obtain ⟨Ak6, ck6, rfl, hk6, _⟩ := owns_slice hout.kin
  have HB6 := Lib.hid (HB5.out.trans (hbl.mono HB5.out.size))
  have HRW6 := Lib.hid (HRW5.out.below hbl)
  have HPAR6 := Lib.hid ((Fr.of_below0 (S := fun _ => False) hbl).blk HPAR5.out id)
  have HBW6 := Lib.hid ((Fr.of_below0 (S := fun _ => False) hbl).blk HBW5.out id)
  have HAC6 := Lib.hid (HAC5.out.below hbl)
  have HRE6 := Lib.hid hre
  have HRO6 := Lib.hid hr6
  have HRK6 := Lib.hid hk6
  clear hpp hbl hout hre hr6 hk6 HB5 HRW5 HPAR5 HBW5 HAC5 hp0 hp1 hp2 hp3 hp4 hp5
  have hgz := Blk.new w6 TRW zero5
  have hr0 := hgz.cell 0
  have hr1 := hgz.cell 1
  have hr2 := hgz.cell 2
  have hr3 := hgz.cell 3
  have hr4 := hgz.cell 4
  have hf0 := hgz.free ⟨w6.heap.size, 0, none⟩ rfl
  have hf1 := hgz.free ⟨w6.heap.size, 1, none⟩ rfl
  have hf2 := hgz.free ⟨w6.heap.size, 2, none⟩ rfl
  have hf3 := hgz.free ⟨w6.heap.size, 3, none⟩ rfl
  have hf4 := hgz.free ⟨w6.heap.size, 4, none⟩ rfl
  simp only [List.getElem?_cons_zero, List.getElem?_cons_succ] at hr0 hr1 hr2 hr3 hr4
  clear hgz
  go_wp2
  have hal := (Below.refl w6.heap.size w6).alloc (Nat.le_refl _) (.cells (ve.cells (seenW d1 l1)).toArray TRW)
  have HB7 := Lib.hid (HB6.out.trans (hal.mono HB6.out.size))
  have HRO := Lib.hid (show MemRO pb g3 w6.heap.size (caseC v1 d1 A c l1.length N M) vw d1 ve (seenW d1 l1) A5 A l1 Ao6 Ak6 (seenA d1 l1) (seenK d1 l1) v1 (w6.alloc (.cells (ve.cells (seenW d1 l1)).toArray TRW)) from
    ⟨(Fr.of_below0 (S := fun _ => False) hal).blk HPAR6.out id, (Fr.of_below0 (S := fun _ => False) hal).blk HBW6.out id, Blk.new w6 TRW (ve.cells (seenW d1 l1)), HRW6.out.below hal, HRE6.out.below hal, HAC6.out.below hal, HRO6.out.below hal, HRK6.out.below hal, HVB.out _ HB7.out, HA.out _ (HBB.out.trans (HB7.out.mono HBB.out.size))⟩)
  clear hal HB6 HPAR6 HBW6 HRW6 HRE6 HAC6 HRO6 HRK6 hr0 hr1 hr2 hr3 hr4 hf0 hf1 hf2 hf3 hf4 HPB2
  generalize w6.alloc (.cells (ve.cells (seenW d1 l1)).toArray TRW) = w7 at *
  generalize w6.heap.size = g6 at *
  go_loopw [9, 10] (fun o k wr => ∃ j : Nat, j ≤ 2 ∧ k = .int .i64 j ∧ Below w7.heap.size w7 wr ∧ ∃ es, WL w7.heap.size (List.replicate j (seenW d1 l1)) es o wr) (fun _ k _ => 2 - (intOf k).toNat)
  case atStart => exact ⟨0, Nat.zero_le _, rfl, Below.refl _ _, [], WL.nil _ _⟩
  case round =>
    obtain ⟨j, hj, rfl, hbr, es, hwl⟩ := hrel
    have HBR := Lib.hid hbr
    have HWL := Lib.hid hwl
    clear hbr hwl
    by_cases hlt : j < 2
    · have HRR := Lib.hid (HRO.out.below HBR.out)
      go_wp2_with fail
      refine start_ (n := 17) (S := fun _ => True) (ds := []) #[false, false, false, false, false, false, false, false, false, false, false, false, false, false, false, false, false] (by kernel_rfl) rfl rfl trivial (fun _ => ?_)
      have HBQ := Lib.hid (show ∀ w', Below wr.drew.heap.size wr.drew w' → Below wr.heap.size wr w' from fun _ hb => ⟨hb.os, hb.tape, hb.output, hb.size, hb.block⟩)
      have HPC5 := Lib.hid (fun w' (hb : Below wr.drew.heap.size wr.drew w') => pw_cell_below (w := wr.drew) hb (HRR.out.par.cell 5))
      have HWC0 := Lib.hid (fun w' (hb : Below wr.drew.heap.size wr.drew w') => pw_cell_below (w := wr.drew) hb (HRR.out.bw.cell 0))
      have HWC1 := Lib.hid (fun w' (hb : Below wr.drew.heap.size wr.drew w') => pw_cell_below (w := wr.drew) hb (HRR.out.bw.cell 1))
      have HWC2 := Lib.hid (fun w' (hb : Below wr.drew.heap.size wr.drew w') => pw_cell_below (w := wr.drew) hb (HRR.out.bw.cell 2))
      have HWC3 := Lib.hid (fun w' (hb : Below wr.drew.heap.size wr.drew w') => pw_cell_below (w := wr.drew) hb (HRR.out.bw.cell 3))
      have HWC4 := Lib.hid (fun w' (hb : Below wr.drew.heap.size wr.drew w') => pw_cell_below (w := wr.drew) hb (HRR.out.bw.cell 4))
      have HWQ := Lib.hid (fun w' (hb : Below wr.drew.heap.size wr.drew w') => HRR.out.rw_.below (HBQ.out w' hb))
      have HAQ := Lib.hid (show ∀ w', Below wr.drew.heap.size wr.drew w' → ActsAt w' A5 l1 from fun w' hb => by have h9 := acts_take (HRR.out.ac.below (HBQ.out w' hb)) l1.length; rwa [List.take_left] at h9)
      have HSQ := Lib.hid (show wr.drew.heap.size = wr.heap.size from rfl)
      have HPL := Lib.hid (show d1.fields.length < 100000000 ∧ d1.states.length < 100000000 ∧ (∀ r ∈ d1.fields, r.length < 100000000) ∧ l1.length < 100000000 from ⟨HLL.out.2.2.1, HLL.out.2.2.2.1, HLL.out.2.2.2.2.1, by omega⟩)
      have hcc5 : ¬ c5 < l1.length := by omega
      have hcc6 : l1.length ≤ c5 := by omega
      generalize wr.drew = wq at *
      refine flow_region (md := .any) (w0 := wq) (B := [0, 0, 0, 4, 12, 30, 63, 127, 255, 255, 255, 255, 0, 4607, 13311, 30719, 65535]) [(0, 53), (1, 54), (2, 55), (3, 56), (4, 57), (5, 58), (6, 59), (7, 52), (8, 60), (9, 61), (10, 62), (11, 63), (12, 12), (13, 11), (15, 13), (16, 14)] [14] (fun i b V w' => match i with
          | 0 => V 0 = vw.val d1
          | 1 => V 1 = .slice A5 (l1.length + 1) c5
          | 2 => V 2 = .pointer (some ⟨pb, 5, none⟩)
          | 3 => V 3 = .slice A l1.length c
          | 4 => V 4 = .int .i64 l1.length
          | 5 => V 5 = .slice A5 l1.length c5
          | 6 => SeenV wq.heap.size (seenA d1 l1) (seenK d1 l1) (seenW d1 l1) (playE d1 l1) (V 6) w'
          | 7 => V 7 = V 6
          | 8 => V 8 = tpart 0 (V 6)
          | 9 => V 9 = tpart 1 (V 6)
          | 10 => V 10 = tpart 2 (V 6)
          | 11 => V 11 = tpart 3 (V 6)
          | 12 => ∃ g, V 12 = .pointer (some ⟨g, 0, none⟩) ∧ (b 14 = false → Blk w' g TWD zero5) ∧ wq.heap.size ≤ g
          | 13 => V 13 = tpart 0 (V 6)
          | 15 => V 15 = tpart 2 (V 6)
          | 16 => V 16 = tpart 3 (V 6)
          | 14 => ∃ g, V 12 = .pointer (some ⟨g, 0, none⟩) ∧ Blk w' g TWD (cellsW (V 9)) ∧ wq.heap.size ≤ g
          | _ => True) rfl (by kernel_rfl) (by kernel_rfl) (by kernel_rfl) (by kernel_rfl) (by kernel_rfl) (by kernel_rfl) ?_ ?_ ?_ ?_ ?_
      · intro i hi b b' V V' w' hb h hp
        simp only [List.map_cons, List.map_nil, List.cons_append, List.nil_append, List.mem_cons, List.not_mem_nil, or_false] at hi
        rcases hi with rfl | rfl | rfl | rfl | rfl | rfl | rfl | rfl | rfl | rfl | rfl | rfl | rfl | rfl | rfl | rfl | rfl
        · simp only [← h 0 (.inl rfl)]; exact hp
        · simp only [← h 1 (.inl rfl)]; exact hp
        · simp only [← h 2 (.inl rfl)]; exact hp
        · simp only [← h 3 (.inl rfl)]; exact hp
        · simp only [← h 4 (.inl rfl)]; exact hp
        · simp only [← h 5 (.inl rfl)]; exact hp
        · simp only [← h 6 (.inl rfl)]; exact hp
        · simp only [← h 7 (.inl rfl), ← h 6 (.inr (by kernel_rfl))]; exact hp
        · simp only [← h 8 (.inl rfl), ← h 6 (.inr (by kernel_rfl)), ← h 7 (.inr (by kernel_rfl))]; exact hp
        · simp only [← h 9 (.inl rfl), ← h 6 (.inr (by kernel_rfl)), ← h 7 (.inr (by kernel_rfl))]; exact hp
        · simp only [← h 10 (.inl rfl), ← h 6 (.inr (by kernel_rfl)), ← h 7 (.inr (by kernel_rfl))]; exact hp
        · simp only [← h 11 (.inl rfl), ← h 6 (.inr (by kernel_rfl)), ← h 7 (.inr (by kernel_rfl))]; exact hp
        · simp only [← h 12 (.inl rfl), ← hb 14 (by decide)]; exact hp
        · simp only [← h 13 (.inl rfl), ← h 6 (.inr (by kernel_rfl)), ← h 8 (.inr (by kernel_rfl))]; exact hp
        · simp only [← h 15 (.inl rfl), ← h 6 (.inr (by kernel_rfl)), ← h 10 (.inr (by kernel_rfl))]; exact hp
        · simp only [← h 16 (.inl rfl), ← h 6 (.inr (by kernel_rfl)), ← h 11 (.inr (by kernel_rfl))]; exact hp
        · simp only [← h 14 (.inl rfl), ← h 12 (.inr (by kernel_rfl)), ← h 9 (.inr (by kernel_rfl))]; exact hp
      · intro i hi b V w1 w2 hp hb
        simp only [List.map_cons, List.map_nil, List.cons_append, List.nil_append, List.mem_cons, List.not_mem_nil, or_false] at hi
        rcases hi with rfl | rfl | rfl | rfl | rfl | rfl | rfl | rfl | rfl | rfl | rfl | rfl | rfl | rfl | rfl | rfl | rfl
        · exact hp
        · exact hp
        · exact hp
        · exact hp
        · exact hp
        · exact hp
        · exact hp.below hb
        · exact hp
        · exact hp
        · exact hp
        · exact hp
        · exact hp
        · exact let ⟨g, h1, h2, h3⟩ := hp; ⟨g, h1, fun h => (Fr.of_below0 (S := fun _ => False) hb).blk (h2 h) id, h3⟩
        · exact hp
        · exact hp
        · exact hp
        · exact let ⟨g, h1, h2, h3⟩ := hp; ⟨g, h1, (Fr.of_below0 (S := fun _ => False) hb).blk h2 id, h3⟩
      · intro e he
        simp only [List.map_cons, List.map_nil, List.cons_append, List.nil_append, List.mem_cons, List.not_mem_nil, or_false] at he
        rcases he with rfl | rfl | rfl | rfl | rfl | rfl | rfl | rfl | rfl | rfl | rfl | rfl | rfl | rfl | rfl | rfl
        · intro b V a w' hoff hd ho hB
          have e3 : a.tmps[3]? = some (.pointer (some ⟨g3, 0, none⟩)) := (ho 3 (by decide)).trans rfl
          have hc0 := HWC0.out w' hB
          have hc1 := HWC1.out w' hB
          have hc2 := HWC2.out w' hB
          have hc3 := HWC3.out w' hB
          have hc4 := HWC4.out w' hB
          refine ⟨_, rfl, rfl, fun K hK => ?_⟩
          clear hd ho hoff
          refine value_ (w1 := w') (v := vw.val d1) rfl rfl ?_ (hK.out _ _ (Below.refl _ _) (setV_self _ _ _))
          go_simp
        · intro b V a w' hoff hd ho hB
          have e4 : a.tmps[4]? = some (.slice A5 (l1.length + 1) c5) := (ho 4 (by decide)).trans rfl
          refine ⟨_, rfl, rfl, fun K hK => ?_⟩
          clear hd ho hoff
          refine value_ (w1 := w') (v := .slice A5 (l1.length + 1) c5) rfl rfl ?_ (hK.out _ _ (Below.refl _ _) (setV_self _ _ _))
          go_simp
        · intro b V a w' hoff hd ho hB
          have e1 : a.tmps[1]? = some (.pointer (some ⟨pb, 0, none⟩)) := (ho 1 (by decide)).trans rfl
          refine ⟨_, rfl, rfl, fun K hK => ?_⟩
          clear hd ho hoff
          refine value_ (w1 := w') (v := .pointer (some ⟨pb, 5, none⟩)) rfl rfl ?_ (hK.out _ _ (Below.refl _ _) (setV_self _ _ _))
          go_simp
        · intro b V a w' hoff hd ho hB
          obtain ⟨e55, p55⟩ := hd (2, 55) (by decide) (by kernel_rfl)
          rw [show V 2 = .pointer (some ⟨pb, 5, none⟩) from p55] at e55
          have hc5 := HPC5.out w' hB
          refine ⟨_, rfl, rfl, fun K hK => ?_⟩
          clear hd ho hoff
          refine value_ (w1 := w') (v := .slice A l1.length c) rfl rfl ?_ (hK.out _ _ (Below.refl _ _) (setV_self _ _ _))
          go_simp
        · intro b V a w' hoff hd ho hB
          obtain ⟨e56, p56⟩ := hd (3, 56) (by decide) (by kernel_rfl)
          rw [show V 3 = .slice A l1.length c from p56] at e56
          refine ⟨_, rfl, rfl, fun K hK => ?_⟩
          clear hd ho hoff
          refine value_ (w1 := w') (v := .int .i64 l1.length) rfl rfl ?_ (hK.out _ _ (Below.refl _ _) (setV_self _ _ _))
          go_simp
        · intro b V a w' hoff hd ho hB
          obtain ⟨e54, p54⟩ := hd (1, 54) (by decide) (by kernel_rfl)
          rw [show V 1 = .slice A5 (l1.length + 1) c5 from p54] at e54
          obtain ⟨e57, p57⟩ := hd (4, 57) (by decide) (by kernel_rfl)
          rw [show V 4 = .int .i64 l1.length from p57] at e57
          refine ⟨_, rfl, rfl, fun K hK => ?_⟩
          clear hd ho hoff
          refine value_ (w1 := w') (v := .slice A5 l1.length c5) rfl rfl ?_ (hK.out _ _ (Below.refl _ _) (setV_self _ _ _))
          go_simp
        · intro b V a w' hoff hd ho hB
          have hb_ := hoff 14 (by decide) (by kernel_rfl)
          obtain ⟨e53, p53⟩ := hd (0, 53) (by decide) (by kernel_rfl)
          rw [show V 0 = vw.val d1 from p53] at e53
          obtain ⟨e58, p58⟩ := hd (5, 58) (by decide) (by kernel_rfl)
          rw [show V 5 = .slice A5 l1.length c5 from p58] at e58
          refine ⟨_, rfl, rfl, fun K hK => ?_⟩
          have hrd := HWQ.out w' hB
          have hac := HAQ.out w' hB
          refine goes_ Try.func17 (by kernel_rfl) rfl #[vw.val d1, .slice A5 l1.length c5] (by rfl) rfl rfl (by simp [eval_of e53, eval_of e58]) ?_
          refine (rec_play w' _ d1 hrd HPL.out.1 HPL.out.2.1 HPL.out.2.2.1 A5 c5 l1 hac HPL.out.2.2.2).mono ?_
          rintro e w2 hpp
          obtain ⟨hbl, v9, rfl, hsv⟩ := hpp.seen
          exact ⟨_, rfl, hK.out _ _ hbl (show SeenV _ _ _ _ _ (setV V 6 v9 6) _ from by rw [setV_self]; exact hsv.lower hB.size)⟩
        · intro b V a w' hoff hd ho hB
          obtain ⟨e59, p59⟩ := hd (6, 59) (by decide) (by kernel_rfl)
          refine ⟨_, rfl, rfl, fun K hK => ?_⟩
          refine value_ (w1 := w') (v := V 6) rfl rfl ?_ (hK.out _ _ (Below.refl _ _) (by show setV V 7 (V 6) 7 = setV V 7 (V 6) 6; rw [setV_self, setV_ne _ _ (by decide)]))
          clear hK hd ho
          obtain ⟨ov, kv, fv, iv, mv, sv, zv, bs, e6, _⟩ := p59
          rw [e6] at e59 ⊢
          go_simp
        · intro b V a w' hoff hd ho hB
          obtain ⟨e52, p52⟩ := hd (7, 52) (by decide) (by kernel_rfl)
          have p_ := (hd (6, 59) (by decide) (by kernel_rfl)).2
          refine ⟨_, rfl, rfl, fun K hK => ?_⟩
          refine value_ (w1 := w') (v := tpart 0 (V 6)) rfl rfl ?_ (hK.out _ _ (Below.refl _ _) (by show setV V 8 _ 8 = tpart 0 (setV V 8 _ 6); rw [setV_self, setV_ne _ _ (by decide)]))
          clear hK hd ho
          obtain ⟨ov, kv, fv, iv, mv, sv, zv, bs, e6, hout⟩ := p_
          rw [p52, e6] at e52
          rw [e6]
          show (execOp a.eval _).run _ _ = .ok (.value ov) w'
          go_simp
        · intro b V a w' hoff hd ho hB
          obtain ⟨e52, p52⟩ := hd (7, 52) (by decide) (by kernel_rfl)
          have p_ := (hd (6, 59) (by decide) (by kernel_rfl)).2
          refine ⟨_, rfl, rfl, fun K hK => ?_⟩
          refine value_ (w1 := w') (v := tpart 1 (V 6)) rfl rfl ?_ (hK.out _ _ (Below.refl _ _) (by show setV V 9 _ 9 = tpart 1 (setV V 9 _ 6); rw [setV_self, setV_ne _ _ (by decide)]))
          clear hK hd ho
          obtain ⟨ov, kv, fv, iv, mv, sv, zv, bs, e6, hout⟩ := p_
          rw [p52, e6] at e52
          rw [e6]
          show (execOp a.eval _).run _ _ = .ok (.value (.agg #[fv, iv, mv, sv, zv])) w'
          go_simp
        · intro b V a w' hoff hd ho hB
          obtain ⟨e52, p52⟩ := hd (7, 52) (by decide) (by kernel_rfl)
          have p_ := (hd (6, 59) (by decide) (by kernel_rfl)).2
          refine ⟨_, rfl, rfl, fun K hK => ?_⟩
          refine value_ (w1 := w') (v := tpart 2 (V 6)) rfl rfl ?_ (hK.out _ _ (Below.refl _ _) (by show setV V 10 _ 10 = tpart 2 (setV V 10 _ 6); rw [setV_self, setV_ne _ _ (by decide)]))
          clear hK hd ho
          obtain ⟨ov, kv, fv, iv, mv, sv, zv, bs, e6, hout⟩ := p_
          rw [p52, e6] at e52
          rw [e6]
          show (execOp a.eval _).run _ _ = .ok (.value kv) w'
          go_simp
        · intro b V a w' hoff hd ho hB
          obtain ⟨e52, p52⟩ := hd (7, 52) (by decide) (by kernel_rfl)
          have p_ := (hd (6, 59) (by decide) (by kernel_rfl)).2
          refine ⟨_, rfl, rfl, fun K hK => ?_⟩
          refine value_ (w1 := w') (v := tpart 3 (V 6)) rfl rfl ?_ (hK.out _ _ (Below.refl _ _) (by show setV V 11 _ 11 = tpart 3 (setV V 11 _ 6); rw [setV_self, setV_ne _ _ (by decide)]))
          clear hK hd ho
          obtain ⟨ov, kv, fv, iv, mv, sv, zv, bs, e6, hout⟩ := p_
          rw [p52, e6] at e52
          rw [e6]
          show (execOp a.eval _).run _ _ = .ok (.value (.int .i64 (playE d1 l1))) w'
          go_simp
        · intro b V a w' hoff hd ho hB
          have hb_ := hoff 14 (by decide) (by kernel_rfl)
          refine ⟨_, rfl, rfl, fun K hK => ?_⟩
          refine value_ (w1 := w'.alloc (.cells zero5.toArray TWD)) (v := .pointer (some ⟨w'.heap.size, 0, none⟩)) rfl rfl ?_ (hK.out _ _ ((Below.refl _ _).alloc (Nat.le_refl _) _) ⟨w'.heap.size, setV_self _ _ _, fun _ => Blk.new w' TWD zero5, hB.size⟩)
          clear hd ho hK
          go_simp
        · intro b V a w' hoff hd ho hB
          obtain ⟨e60, p60⟩ := hd (8, 60) (by decide) (by kernel_rfl)
          have p_ := (hd (6, 59) (by decide) (by kernel_rfl)).2
          refine ⟨_, rfl, rfl, fun K hK => ?_⟩
          refine value_ (w1 := w') (v := tpart 0 (V 6)) rfl rfl ?_ (hK.out _ _ (Below.refl _ _) (by show setV V 13 _ 13 = tpart 0 (setV V 13 _ 6); rw [setV_self, setV_ne _ _ (by decide)]))
          clear hK hd ho
          obtain ⟨ov, kv, fv, iv, mv, sv, zv, bs, e6, hout⟩ := p_
          rw [p60, e6] at e60
          change a.tmps[60]? = some ov at e60
          rw [e6]
          show (execOp a.eval _).run _ _ = .ok (.value ov) w'
          obtain ⟨A0, c0, x0, _, _⟩ := owns_slice hout.out
          rw [x0] at e60 ⊢
          go_simp
        · intro b V a w' hoff hd ho hB
          obtain ⟨e62, p62⟩ := hd (10, 62) (by decide) (by kernel_rfl)
          have p_ := (hd (6, 59) (by decide) (by kernel_rfl)).2
          refine ⟨_, rfl, rfl, fun K hK => ?_⟩
          refine value_ (w1 := w') (v := tpart 2 (V 6)) rfl rfl ?_ (hK.out _ _ (Below.refl _ _) (by show setV V 15 _ 15 = tpart 2 (setV V 15 _ 6); rw [setV_self, setV_ne _ _ (by decide)]))
          clear hK hd ho
          obtain ⟨ov, kv, fv, iv, mv, sv, zv, bs, e6, hout⟩ := p_
          rw [p62, e6] at e62
          change a.tmps[62]? = some kv at e62
          rw [e6]
          show (execOp a.eval _).run _ _ = .ok (.value kv) w'
          obtain ⟨A0, c0, x0, _, _⟩ := owns_slice hout.kin
          rw [x0] at e62 ⊢
          go_simp
        · intro b V a w' hoff hd ho hB
          obtain ⟨e63, p63⟩ := hd (11, 63) (by decide) (by kernel_rfl)
          have p_ := (hd (6, 59) (by decide) (by kernel_rfl)).2
          refine ⟨_, rfl, rfl, fun K hK => ?_⟩
          refine value_ (w1 := w') (v := tpart 3 (V 6)) rfl rfl ?_ (hK.out _ _ (Below.refl _ _) (by show setV V 16 _ 16 = tpart 3 (setV V 16 _ 6); rw [setV_self, setV_ne _ _ (by decide)]))
          clear hK hd ho
          obtain ⟨ov, kv, fv, iv, mv, sv, zv, bs, e6, hout⟩ := p_
          rw [p63, e6] at e63
          change a.tmps[63]? = some (.int .i64 (playE d1 l1)) at e63
          rw [e6]
          show (execOp a.eval _).run _ _ = .ok (.value (.int .i64 (playE d1 l1))) w'
          go_simp
      · intro s hs
        simp only [List.map_cons, List.map_nil, List.cons_append, List.nil_append, List.mem_cons, List.not_mem_nil, or_false] at hs
        subst hs
        · intro b V a w' hb_ hd ho hB
          obtain ⟨e12, p12⟩ := hd (12, 12) (by decide) (by kernel_rfl)
          obtain ⟨e61, p61⟩ := hd (9, 61) (by decide) (by kernel_rfl)
          obtain ⟨e59, p59⟩ := hd (6, 59) (by decide) (by kernel_rfl)
          refine ⟨_, rfl, rfl, fun K hK => ?_⟩
          obtain ⟨g, hg, hgz0, hgl⟩ := p12
          have hgz := hgz0 hb_
          rw [hg] at e12
          have p_ := (hd (6, 59) (by decide) (by kernel_rfl)).2
          obtain ⟨ov, kv, fv, iv, mv, sv, zv, bs, e6, hout⟩ := p_
          have hx : V 9 = .agg #[fv, iv, mv, sv, zv] := by rw [p61, e6]; rfl
          rw [hx] at e61
          have hst := run_store_run (P := Try.prog) (w := w') (g := g) (o := 0) TWD (.agg #[fv, iv, mv, sv, zv]) [fv, iv, mv, sv, zv] hgz rfl wsize (by simp [zero5]) (by obtain ⟨A0, c0, x0, _, _⟩ := owns_slice hout.wld.f; obtain ⟨A1, c1, x1, _, _⟩ := owns_slice hout.wld.i; obtain ⟨A2, c2, x2, _, _⟩ := owns_slice hout.wld.m; obtain ⟨A3, c3, x3, _, _⟩ := owns_slice hout.wld.s; obtain ⟨A4, c4, x4, _, _⟩ := owns_slice hout.wld.z; rw [x0, x1, x2, x3, x4]; intro q hq; simp only [List.mem_cons, List.not_mem_nil, or_false] at hq; rcases hq with rfl | rfl | rfl | rfl | rfl <;> rfl)
          obtain ⟨hbz, hfz⟩ := res_end hgz fv iv mv sv zv _ rfl
          refine skip_ (by rfl) rfl (store_exec rfl (eval_of e12) (eval_of e61) hst) (hK.out _ (hB.trans (hfz.below hB.size (fun k hk => by rw [hk]; exact hgl))) ⟨g, hg, by rw [hx]; exact hbz, hgl⟩ (fun i hi hne hbi hp => ?_))
          simp only [List.map_cons, List.map_nil, List.cons_append, List.nil_append, List.mem_cons, List.not_mem_nil, or_false] at hi
          rcases hi with rfl | rfl | rfl | rfl | rfl | rfl | rfl | rfl | rfl | rfl | rfl | rfl | rfl | rfl | rfl | rfl | rfl
          · exact hp
          · exact hp
          · exact hp
          · exact hp
          · exact hp
          · exact hp
          · exact hp.store hgz (by decide) (by decide) (by decide) hfz
          · exact hp
          · exact hp
          · exact hp
          · exact hp
          · exact hp
          · obtain ⟨g2, k1, _, k3⟩ := hp; exact ⟨g2, k1, fun h => absurd ((up_self b _).symm.trans h) (by decide), k3⟩
          · exact hp
          · exact hp
          · exact hp
          · exact absurd rfl hne
      · intro b V a w' hball hfr hB hP
        have hb14 := hball 14 (by decide)
        have P0 := hP 0 (by decide)
        have P1 := hP 1 (by decide)
        have P2 := hP 2 (by decide)
        have P3 := hP 3 (by decide)
        have P4 := hP 4 (by decide)
        have P5 := hP 5 (by decide)
        have P6 := hP 6 (by decide)
        have P7 := hP 7 (by decide)
        have P8 := hP 8 (by decide)
        have P9 := hP 9 (by decide)
        have P10 := hP 10 (by decide)
        have P11 := hP 11 (by decide)
        have P12 := hP 12 (by decide)
        have P13 := hP 13 (by decide)
        have P15 := hP 15 (by decide)
        have P16 := hP 16 (by decide)
        have P14 := hP 14 (by decide)
        clear hP hball
        obtain ⟨g12, hg, hgb, hgl⟩ := P14
        obtain ⟨ov, kv, fv, iv, mv, sv, zv, bs, e6, hout⟩ := P6
        have x0 : V 13 = ov := by rw [P13, e6]; rfl
        have x1 : V 9 = .agg #[fv, iv, mv, sv, zv] := by rw [P9, e6]; rfl
        have x2 : V 15 = kv := by rw [P15, e6]; rfl
        have x3 : V 16 = .int .i64 (playE d1 l1) := by rw [P16, e6]; rfl
        rw [x1] at hgb
        have HBN := Lib.hid (HBQ.out _ hB)
        have HBG := Lib.hid (show Blk w' g12 TWD [fv, iv, mv, sv, zv] from hgb)
        have HOU := Lib.hid hout
        have HGL := Lib.hid (show wr.heap.size ≤ g12 by rw [← HSQ.out]; exact hgl)
        have HES := Lib.hid (show (∀ e ∈ es, ∀ k, e.foot k → k < wq.heap.size) ∧ (∀ k, u9.ownBlock = some k → k < wq.heap.size) ∧ w7.heap.size ≤ wq.heap.size by rw [HSQ.out]; exact ⟨HWL.out.lt.1, HWL.out.lt.2, HBR.out.size⟩)
        subst hfr
        simp only [vrows, List.map_cons, List.map_nil, putSel, if_true, Act.put, List.setIfInBounds_toArray, List.set_cons_zero, List.set_cons_succ]
        rw [hg, x0, x2, x3]
        clear P0 P1 P2 P3 P4 P5 P7 P8 P9 P10 P11 P12 P13 P15 P16 x0 x1 x2 x3 hg hgb hgl hB e6 hout HBQ HSQ HWQ HAQ HPC5 HWC0 HWC1 HWC2 HWC3 HWC4 HPL
        obtain ⟨vl, rfl, rfl, rfl, rfl, rfl, hrl⟩ := HOU.out.wld.reads
        obtain ⟨Ao, co, rfl, hr1, _⟩ := owns_slice HOU.out.out
        obtain ⟨Ak, ck, rfl, hk1, _⟩ := owns_slice HOU.out.kin
        have HRL6 := Lib.hid hrl
        have HR16 := Lib.hid hr1
        have HK16 := Lib.hid hk1
        clear hrl hr1 hk1
        have HRRN := Lib.hid (HRR.out.below HBN.out)
        have HSM := Lib.hid (seen_small d1 l1 hl1)
        have HLK := Lib.hid (seen_len d1 l1)
        go_wp2_with fail
        obtain ⟨wf, rfl⟩ : ∃ x : World, x = w' := ⟨_, rfl⟩
        obtain ⟨B0, hB0⟩ : ∃ B, B = wf.drew.heap.size := ⟨_, rfl⟩
        have HBQ := Lib.hid (show ∀ w'', Below B0 wf.drew w'' → Below wf.heap.size wf w'' from fun _ hb => ⟨hb.os, hb.tape, hb.output, hb.size, by rw [hB0] at hb; exact hb.block⟩)
        have HBS := Lib.hid (show ∀ w'', Below B0 wf.drew w'' → B0 ≤ w''.heap.size from fun _ hb => by rw [hB0]; exact hb.size)
        clear hB0
        have HRE := Lib.hid (fun w'' (hb : Below B0 wf.drew w'') => HRRN.out.re.below (HBQ.out w'' hb))
        have HRL := Lib.hid (fun w'' (hb : Below B0 wf.drew w'') => HRL6.out.below (HBQ.out w'' hb))
        have HR1 := Lib.hid (fun w'' (hb : Below B0 wf.drew w'') => HR16.out.below (HBQ.out w'' hb))
        have HR2 := Lib.hid (fun w'' (hb : Below B0 wf.drew w'') => HRRN.out.ro.below (HBQ.out w'' hb))
        have HK1 := Lib.hid (fun w'' (hb : Below B0 wf.drew w'') => HK16.out.below (HBQ.out w'' hb))
        have HK2 := Lib.hid (fun w'' (hb : Below B0 wf.drew w'') => HRRN.out.rk.below (HBQ.out w'' hb))
        have HCL0 := Lib.hid (fun w'' (hb : Below B0 wf.drew w'') => pw_cell_below (w := wf) (HBQ.out w'' hb) (HBG.out.cell 0))
        have HCL1 := Lib.hid (fun w'' (hb : Below B0 wf.drew w'') => pw_cell_below (w := wf) (HBQ.out w'' hb) (HBG.out.cell 1))
        have HCL2 := Lib.hid (fun w'' (hb : Below B0 wf.drew w'') => pw_cell_below (w := wf) (HBQ.out w'' hb) (HBG.out.cell 2))
        have HCL3 := Lib.hid (fun w'' (hb : Below B0 wf.drew w'') => pw_cell_below (w := wf) (HBQ.out w'' hb) (HBG.out.cell 3))
        have HCL4 := Lib.hid (fun w'' (hb : Below B0 wf.drew w'') => pw_cell_below (w := wf) (HBQ.out w'' hb) (HBG.out.cell 4))
        have HCE0 := Lib.hid (fun w'' (hb : Below B0 wf.drew w'') => pw_cell_below (w := wf) (HBQ.out w'' hb) (HRRN.out.be.cell 0))
        have HCE1 := Lib.hid (fun w'' (hb : Below B0 wf.drew w'') => pw_cell_below (w := wf) (HBQ.out w'' hb) (HRRN.out.be.cell 1))
        have HCE2 := Lib.hid (fun w'' (hb : Below B0 wf.drew w'') => pw_cell_below (w := wf) (HBQ.out w'' hb) (HRRN.out.be.cell 2))
        have HCE3 := Lib.hid (fun w'' (hb : Below B0 wf.drew w'') => pw_cell_below (w := wf) (HBQ.out w'' hb) (HRRN.out.be.cell 3))
        have HCE4 := Lib.hid (fun w'' (hb : Below B0 wf.drew w'') => pw_cell_below (w := wf) (HBQ.out w'' hb) (HRRN.out.be.cell 4))
        refine start_ (n := 22) (S := fun w' => Below B0 wf.drew w') (ds := []) #[false, false, false, false, false, false, false, false, false, false, false, false, false, false, false, false, false, false, false, false, false, false] (by kernel_rfl) rfl rfl (Below.refl _ _) (fun hHeld => ?_)
        have S1 : Below B0 wf.drew wf.drew := Below.refl _ _
        generalize hwR : wf.drew = wR at *
        have HWR := Lib.hid hwR
        clear hwR
        refine pure_ (i := 0) (N := some 64) (v := ?_) (a' := ?_) #[true, false, false, false, false, false, false, false, false, false, false, false, false, false, false, false, false, false, false, false, false, false] rfl rfl (by kernel_rfl) (fun _ _ _ h => h) (Or.inl ⟨by rfl, ?_⟩) ?_ ?_
        rotate_left
        · intro w'
          go_simp
          with_reducible rfl
        rotate_left
        · simp only [Act.put, List.setIfInBounds_toArray, List.set_cons_zero, List.set_cons_succ]
          rfl
        refine pure_ (i := 1) (N := some 65) (v := ?_) (a' := ?_) #[true, true, false, false, false, false, false, false, false, false, false, false, false, false, false, false, false, false, false, false, false, false] rfl rfl (by kernel_rfl) (fun _ _ _ h => h) (Or.inl ⟨by rfl, ?_⟩) ?_ ?_
        rotate_left
        · intro w'
          go_simp
          with_reducible rfl
        rotate_left
        · simp only [Act.put, List.setIfInBounds_toArray, List.set_cons_zero, List.set_cons_succ]
          rfl
        refine pure_ (i := 2) (N := some 66) (v := ?_) (a' := ?_) #[true, true, true, false, false, false, false, false, false, false, false, false, false, false, false, false, false, false, false, false, false, false] rfl rfl (by kernel_rfl) (fun _ _ _ h => h) (Or.inl ⟨by rfl, ?_⟩) ?_ ?_
        rotate_left
        · intro w'
          go_simp
          with_reducible rfl
        rotate_left
        · simp only [Act.put, List.setIfInBounds_toArray, List.set_cons_zero, List.set_cons_succ]
          rfl
        refine pure_ (i := 3) (N := some 67) (v := ?_) (a' := ?_) #[true, true, true, true, false, false, false, false, false, false, false, false, false, false, false, false, false, false, false, false, false, false] rfl rfl (by kernel_rfl) (fun _ _ _ h => h) (Or.inl ⟨by rfl, ?_⟩) ?_ ?_
        rotate_left
        · intro w'
          go_simp
          with_reducible rfl
        rotate_left
        · simp only [Act.put, List.setIfInBounds_toArray, List.set_cons_zero, List.set_cons_succ]
          rfl
        refine pure_ (i := 4) (N := some 68) (v := ?_) (a' := ?_) #[true, true, true, true, true, false, false, false, false, false, false, false, false, false, false, false, false, false, false, false, false, false] rfl rfl (by kernel_rfl) (fun _ _ _ h => h) (Or.inl ⟨by rfl, ?_⟩) ?_ ?_
        rotate_left
        · intro w'
          go_simp
          with_reducible rfl
        rotate_left
        · simp only [Act.put, List.setIfInBounds_toArray, List.set_cons_zero, List.set_cons_succ]
          rfl
        refine pure_ (i := 5) (N := some 69) (v := ?_) (a' := ?_) #[true, true, true, true, true, true, false, false, false, false, false, false, false, false, false, false, false, false, false, false, false, false] rfl rfl (by kernel_rfl) (fun _ _ _ h => h) (Or.inl ⟨by rfl, ?_⟩) ?_ ?_
        rotate_left
        · intro w'
          go_simp
          with_reducible rfl
        rotate_left
        · simp only [Act.put, List.setIfInBounds_toArray, List.set_cons_zero, List.set_cons_succ]
          rfl
        refine one_ (i := 6) (N := some 70) #[true, true, true, true, true, true, true, false, false, false, false, false, false, false, false, false, false, false, false, false, false, false] rfl rfl (by kernel_rfl) (by decide) (fun K hK => ?_)
        refine goes_ Try.func21 (by kernel_rfl) rfl #[.slice Ao (seenA d1 l1).length co, .slice Ao6 (seenA d1 l1).length co6] (by rfl) rfl rfl (by simp [Act.eval]) ?_
        refine (same_ints' _ _ (seenA d1 l1).length (seenA d1 l1) _ _ _ rfl (by have := HSM.out.1; omega) (HR1.out _ S1) (HR2.out _ S1)).mono ?_
        rintro e w9 ⟨rfl, m9, rfl⟩
        refine ⟨_, rfl, hK.out _ _ (pw_below_drewN S1 m9) (fun hHeld => ?_)⟩
        simp only [Act.put, List.setIfInBounds_toArray, List.set_cons_zero, List.set_cons_succ]
        have S2 := pw_below_drewN S1 m9
        clear hK S1
        generalize wR.drewN m9 = wn2 at *
        refine pure_ (i := 7) (N := some 71) (v := ?_) (a' := ?_) #[true, true, true, true, true, true, true, true, false, false, false, false, false, false, false, false, false, false, false, false, false, false] rfl rfl (by kernel_rfl) (fun _ _ _ h => h) (Or.inl ⟨by rfl, ?_⟩) ?_ ?_
        rotate_left
        · intro w'
          go_simp
          with_reducible rfl
        rotate_left
        · simp only [Act.put, List.setIfInBounds_toArray, List.set_cons_zero, List.set_cons_succ]
          rfl
        refine pure_ (i := 8) (N := some 72) (v := ?_) (a' := ?_) #[true, true, true, true, true, true, true, true, true, false, false, false, false, false, false, false, false, false, false, false, false, false] rfl rfl (by kernel_rfl) (fun _ _ _ h => h) (Or.inl ⟨by rfl, ?_⟩) ?_ ?_
        rotate_left
        · intro w'
          go_simp
          with_reducible rfl
        rotate_left
        · simp only [Act.put, List.setIfInBounds_toArray, List.set_cons_zero, List.set_cons_succ]
          rfl
        refine pure_ (i := 9) (N := some 73) (v := ?_) (a' := ?_) #[true, true, true, true, true, true, true, true, true, true, false, false, false, false, false, false, false, false, false, false, false, false] rfl rfl (by kernel_rfl) (fun _ _ _ h => h) (Or.inl ⟨by rfl, ?_⟩) ?_ ?_
        rotate_left
        · intro w'
          go_simp
          with_reducible rfl
        rotate_left
        · simp only [Act.put, List.setIfInBounds_toArray, List.set_cons_zero, List.set_cons_succ]
          rfl
        refine pure_ (i := 10) (N := some 74) (v := ?_) (a' := ?_) #[true, true, true, true, true, true, true, true, true, true, true, false, false, false, false, false, false, false, false, false, false, false] rfl rfl (by kernel_rfl) (fun _ _ _ h => h) (Or.inl ⟨by rfl, ?_⟩) ?_ ?_
        rotate_left
        · intro w'
          go_simp
          with_reducible rfl
        rotate_left
        · simp only [Act.put, List.setIfInBounds_toArray, List.set_cons_zero, List.set_cons_succ]
          rfl
        refine pure_ (i := 11) (N := some 75) (v := ?_) (a' := ?_) #[true, true, true, true, true, true, true, true, true, true, true, true, false, false, false, false, false, false, false, false, false, false] rfl rfl (by kernel_rfl) (fun _ _ _ h => h) (Or.inl ⟨by rfl, ?_⟩) ?_ ?_
        rotate_left
        · intro w'
          go_simp
          with_reducible rfl
        rotate_left
        · simp only [Act.put, List.setIfInBounds_toArray, List.set_cons_zero, List.set_cons_succ]
          rfl
        refine one_ (i := 12) (N := some 76) #[true, true, true, true, true, true, true, true, true, true, true, true, true, false, false, false, false, false, false, false, false, false] rfl rfl (by kernel_rfl) (by decide) (fun K hK => ?_)
        refine goes_ Try.func21 (by kernel_rfl) rfl #[.slice Ak (seenK d1 l1).length ck, .slice Ak6 (seenK d1 l1).length ck6] (by rfl) rfl rfl (by simp [Act.eval]) ?_
        refine (same_ints' _ _ (seenK d1 l1).length (seenK d1 l1) _ _ _ rfl (by have := HSM.out.2.1; omega) (HK1.out _ S2) (HK2.out _ S2)).mono ?_
        rintro e w9 ⟨rfl, m9, rfl⟩
        refine ⟨_, rfl, hK.out _ _ (pw_below_drewN S2 m9) (fun hHeld => ?_)⟩
        simp only [Act.put, List.setIfInBounds_toArray, List.set_cons_zero, List.set_cons_succ]
        have S3 := pw_below_drewN S2 m9
        clear hK S2
        generalize wn2.drewN m9 = wn3 at *
        refine pure_ (i := 13) (N := some 77) (v := ?_) (a' := ?_) #[true, true, true, true, true, true, true, true, true, true, true, true, true, true, false, false, false, false, false, false, false, false] rfl rfl (by kernel_rfl) (fun _ _ _ h => h) (Or.inl ⟨by rfl, ?_⟩) ?_ ?_
        rotate_left
        · intro w'
          go_simp
          with_reducible rfl
        rotate_left
        · simp only [Act.put, List.setIfInBounds_toArray, List.set_cons_zero, List.set_cons_succ]
          rfl
        refine pure_ (i := 14) (N := some 78) (v := ?_) (a' := ?_) #[true, true, true, true, true, true, true, true, true, true, true, true, true, true, true, false, false, false, false, false, false, false] rfl rfl (by kernel_rfl) (fun _ _ _ h => h) (Or.inl ⟨by rfl, ?_⟩) ?_ ?_
        rotate_left
        · intro w'
          go_simp
          with_reducible rfl
        rotate_left
        · simp only [Act.put, List.setIfInBounds_toArray, List.set_cons_zero, List.set_cons_succ]
          rfl
        refine pure_ (i := 15) (N := some 79) (v := ?_) (a' := ?_) #[true, true, true, true, true, true, true, true, true, true, true, true, true, true, true, true, false, false, false, false, false, false] rfl rfl (by kernel_rfl) (fun _ _ _ h => h) (Or.inl ⟨by rfl, ?_⟩) ?_ ?_
        rotate_left
        · intro w'
          go_simp
          with_reducible rfl
        rotate_left
        · simp only [Act.put, List.setIfInBounds_toArray, List.set_cons_zero, List.set_cons_succ]
          rfl
        refine take_ (i := 16) (N := some 80) (v := vl.val (seenW d1 l1)) (a' := ?_) #[true, true, true, true, true, true, true, true, true, true, true, true, true, true, true, true, true, false, false, false, false, false] rfl rfl (by kernel_rfl) (fun _ _ _ h => h) (Or.inl ⟨by rfl, ?_⟩) hHeld ?_ ?_
        · rintro w' s0
          have hc0 := HCL0.out w' s0
          have hc1 := HCL1.out w' s0
          have hc2 := HCL2.out w' s0
          have hc3 := HCL3.out w' s0
          have hc4 := HCL4.out w' s0
          go_simp
        rotate_left
        · simp only [Act.put, List.setIfInBounds_toArray, List.set_cons_zero, List.set_cons_succ]
          rfl
        refine take_ (i := 18) (N := some 82) (v := ve.val (seenW d1 l1)) (a' := ?_) #[true, true, true, true, true, true, true, true, true, true, true, true, true, true, true, true, true, false, true, false, false, false] rfl rfl (by kernel_rfl) (fun _ _ _ h => h) (Or.inl ⟨by rfl, ?_⟩) hHeld ?_ ?_
        · rintro w' s0
          have hc0 := HCE0.out w' s0
          have hc1 := HCE1.out w' s0
          have hc2 := HCE2.out w' s0
          have hc3 := HCE3.out w' s0
          have hc4 := HCE4.out w' s0
          go_simp
        rotate_left
        · simp only [Act.put, List.setIfInBounds_toArray, List.set_cons_zero, List.set_cons_succ]
          rfl
        refine one_ (i := 17) (N := some 81) #[true, true, true, true, true, true, true, true, true, true, true, true, true, true, true, true, true, true, true, false, false, false] rfl rfl (by kernel_rfl) (by decide) (fun K hK => ?_)
        refine goes_ Try.func23 (by kernel_rfl) rfl #[vl.val (seenW d1 l1)] (by rfl) rfl rfl (by simp [Act.eval]) ?_
        refine (law_ours wn3 vl (seenW d1 l1)).mono ?_
        rintro e wn4 ⟨rfl, hbl⟩
        refine ⟨_, rfl, hK.out _ _ (S3.trans (hbl.mono (HBS.out _ S3))) (fun hHeld => ?_)⟩
        simp only [Act.put, List.setIfInBounds_toArray, List.set_cons_zero, List.set_cons_succ]
        have S4 := S3.trans (hbl.mono (HBS.out _ S3))
        clear hK hbl S3
        refine one_ (i := 19) (N := some 83) #[true, true, true, true, true, true, true, true, true, true, true, true, true, true, true, true, true, true, true, true, false, false] rfl rfl (by kernel_rfl) (by decide) (fun K hK => ?_)
        refine goes_ Try.func22 (by kernel_rfl) rfl #[vl.val (seenW d1 l1), ve.val (seenW d1 l1)] (by rfl) rfl rfl (by simp [Act.eval]) ?_
        obtain ⟨_, _, m0, m1, m2, m3, m4, m5⟩ := HSM.out
        refine (ref_Same wn4 vl ve (seenW d1 l1) (HRL.out _ S4) (HRE.out _ S4) (by omega) (by omega) (by omega) (by omega) (by omega) (fun r hr => by have := m5 r hr; omega)).mono ?_
        rintro e wn5 ⟨rfl, hbl⟩
        refine ⟨_, rfl, hK.out _ _ (S4.trans (hbl.mono (HBS.out _ S4))) (fun hHeld => ?_)⟩
        simp only [Act.put, List.setIfInBounds_toArray, List.set_cons_zero, List.set_cons_succ]
        have S5 := S4.trans (hbl.mono (HBS.out _ S4))
        clear hK hbl S4 m0 m1 m2 m3 m4 m5
        refine pure_ (i := 20) (N := some 84) (v := ?_) (a' := ?_) #[true, true, true, true, true, true, true, true, true, true, true, true, true, true, true, true, true, true, true, true, true, false] rfl rfl (by kernel_rfl) (fun _ _ _ h => h) (Or.inl ⟨by rfl, ?_⟩) ?_ ?_
        rotate_left
        · intro w'
          go_simp
          with_reducible rfl
        rotate_left
        · simp only [Act.put, List.setIfInBounds_toArray, List.set_cons_zero, List.set_cons_succ]
          rfl
        refine pure_ (i := 21) (N := some 85) (v := ?_) (a' := ?_) #[true, true, true, true, true, true, true, true, true, true, true, true, true, true, true, true, true, true, true, true, true, true] rfl rfl (by kernel_rfl) (fun _ _ _ h => h) (Or.inl ⟨by rfl, ?_⟩) ?_ ?_
        rotate_left
        · intro w'
          go_simp
          with_reducible rfl
        rotate_left
        · simp only [Act.put, List.setIfInBounds_toArray, List.set_cons_zero, List.set_cons_succ]
          rfl
        refine done_ (by kernel_rfl) ?_
        have HBF := Lib.hid (HBQ.out _ S5)
        clear S5 HBQ HBS HRE HRL HR1 HR2 HK1 HK2 HCE0 HCL0 HCE1 HCL1 HCE2 HCL2 HCE3 HCL3 HCE4 HCL4
        go_wp2_with fail
        have HO5 := Lib.hid (HOU.out.below HBF.out)
        have hla := HSM.out.1
        have HW5 := Lib.hid ((HWL.out.below HBN.out).below HBF.out)
        have HB75 := Lib.hid ((HBR.out.trans (HBN.out.mono HBR.out.size)).trans (HBF.out.mono (Nat.le_trans HBR.out.size HBN.out.size)))
        go_loopw [15] (fun k wl => ∃ q : Nat, q ≤ (seenA d1 l1).length ∧ k = .int .i64 q ∧ ∃ us us', wl.ownsRow wq.heap.size TII 1 (.slice Ao (seenA d1 l1).length co) (seenA d1 l1).length us ∧ wl.ownsRow wq.heap.size TII 1 (.slice Ak (seenK d1 l1).length ck) (seenK d1 l1).length us' ∧ Fr wn5 wl (fun k => (Value.slice Ao (seenA d1 l1).length co).ownBlock = some k ∨ (Value.slice Ak (seenK d1 l1).length ck).ownBlock = some k)) (fun k _ => (seenA d1 l1).length - (intOf k).toNat)
        case atStart => exact ⟨0, Nat.zero_le _, rfl, _, _, HO5.out.out, HO5.out.kin, Fr.refl _ _⟩
        case round =>
          obtain ⟨q, hq, rfl, us, us', ho, hk, hf⟩ := hrel
          have HF := Lib.hid hf
          have HO := Lib.hid ho
          have HKK := Lib.hid hk
          clear hf ho hk
          by_cases hlt2 : q < (seenA d1 l1).length
          · have hlt3 : q < (seenK d1 l1).length := by rw [← HLK.out]; exact hlt2
            obtain ⟨u, hu⟩ : ∃ u, us[q]? = some u := ⟨_, List.getElem?_eq_getElem (by have := HO.out.1; omega)⟩
            obtain ⟨u', hu'⟩ : ∃ u, us'[q]? = some u := ⟨_, List.getElem?_eq_getElem (by have := HKK.out.1; omega)⟩
            obtain ⟨ad, cc, e1, _, hb1, hc1, hs1⟩ := own_at HO.out hu
            simp only [Value.slice.injEq] at e1
            obtain ⟨rfl, _, rfl⟩ := e1
            have hf1 := (hs1 _ HO.out).1
            have HS1 := Lib.hid ((hs1 _ HO.out).2 (.int .i64 (-7)))
            have HFa := Lib.hid (fr_one (w := wr) (a := ad.add q) (x := .int .i64 (-7)) (S := fun k => (Value.slice (some ad) (seenA d1 l1).length co).ownBlock = some k) hb1)
            have HK1 := Lib.hid (owns_fr HKK.out HFa.out (fun k hk hs => HO5.out.d3 k hs hk))
            obtain ⟨ad2, cc2, e2, _, hb2, hc2, hs2⟩ := own_at HK1.out hu'
            simp only [Value.slice.injEq] at e2
            obtain ⟨rfl, _, rfl⟩ := e2
            have hf2 := (hs2 _ HK1.out).1
            have HS2 := Lib.hid ((hs2 _ HK1.out).2 (.int .i64 (-8)))
            have HFb := Lib.hid (fr_one (w := wr.setCell (ad.add q) (.int .i64 (-7))) (a := ad2.add q) (x := .int .i64 (-8)) (S := fun k => (Value.slice (some ad2) (seenK d1 l1).length ck).ownBlock = some k) hb2)
            have HS3 := Lib.hid (owns_fr HS1.out HFb.out (fun k hk hs => HO5.out.d3 k hk hs))
            clear hb1 hs1 hb2 hs2 hu hu'
            go_wp2
            go_roundw
            case rel => exact ⟨q + 1, by omega, by go_num, _, _, HS3.out, HS2.out, (HF.out.trans HFa.out (fun _ _ h => .inl h)).trans HFb.out (fun _ _ h => .inr h)⟩
            case measure => simp [intOf]; omega
          · have hqe : q = (seenA d1 l1).length := by omega
            subst hqe
            have hS : ∀ k, ((Value.slice Ao (seenA d1 l1).length co).ownBlock = some k ∨ (Value.slice Ak (seenK d1 l1).length ck).ownBlock = some k) → wq.heap.size ≤ k ∧ ∃ ys, Blk wn5 k TII ys := fun k hk => by
              rcases hk with hk | hk
              · exact ⟨(World.ownsRow.lt HO5.out.out k hk).1, owns_typed HO5.out.out k hk⟩
              · exact ⟨(World.ownsRow.lt HO5.out.kin k hk).1, owns_typed HO5.out.kin k hk⟩
            have HBX := Lib.hid (HF.out.blk ((Fr.of_below0 (S := fun _ => False) HBF.out).blk HBG.out id) (fun hs => by
              obtain ⟨ys, hy⟩ := (hS _ hs).2
              exact absurd (hy.inj ((Fr.of_below0 (S := fun _ => False) HBF.out).blk HBG.out id)).1 (by decide)))
            have HSS := Lib.hid hS
            have hb0 := HBX.out.cell 0
            have hb1 := HBX.out.cell 1
            have hb2 := HBX.out.cell 2
            have hb3 := HBX.out.cell 3
            have hb4 := HBX.out.cell 4
            simp only [List.getElem?_cons_zero, List.getElem?_cons_succ] at hb0 hb1 hb2 hb3 hb4
            clear hS
            have HWLR := Lib.hid (HW5.out.fr HF.out (fun k hk => ⟨fun e he hfk => by have h1 := HES.out.1 e he k hfk; have h2 := (HSS.out k hk).1; omega, fun hv9 => by have h1 := HES.out.2.1 k hv9; have h2 := (HSS.out k hk).1; omega⟩))
            have HBWR := Lib.hid (HB75.out.trans (HF.out.below HB75.out.size (fun k hk => by have h2 := (HSS.out k hk).1; have := HES.out.2.2; omega)))
            have HOE := Lib.hid ((HO5.out.wld.fr HF.out (fun k hk hs => by
              rcases hs with hs | hs
              · exact HO5.out.d1 k hs hk
              · exact HO5.out.d2 k hs hk)))
            have hes : es.length ≤ 2 := by have := HWL.out.len; simp at this; omega
            go_wp2_with (at_builtin; refine print_append_cells (w0 := w7) (W := wr) w7.heap.size rfl _ _ 66 TWD _ 5 120 rfl Try.underlying66 winfo rfl (by decide) (by decide) u9 es.length _ (vl.cells (seenW d1 l1)) rfl rfl rfl (by simp [Value.oneCell']) HWLR.out.row HBWR.out HBWR.out.size (by omega) ?_)
            intro a1 w9 hown hb9 hg9 hat9
            have HN := Lib.hid (HWLR.out.push (e := ⟨_, _, _, _, _, bs⟩) (D := seenW d1 l1) (N := wq.heap.size) (HOE.out.lower HES.out.2.2) (fun k hk => (HOE.out.foot hk).1) HES.out.1 hg9 hown)
            have HB9 := Lib.hid hb9
            clear hown hb9 hg9 hat9
            go_wp2
            go_roundw
            case rel =>
              have hrep : List.replicate (j + 1) (seenW d1 l1) = List.replicate j (seenW d1 l1) ++ [(seenW d1 l1)] := List.replicate_succ'
              first
                | exact ⟨j + 1, by omega, by go_num, HB9.out, _, by rw [hrep]; exact HN.out⟩
                | exact ⟨_, _, ⟨j + 1, by omega, by go_num, HB9.out, _, by rw [hrep]; exact HN.out⟩, rfl⟩
            case measure => simp [intOf]; omega
    · have hje : j = 2 := by omega
      subst hje
      obtain ⟨D0, HMR, HSD⟩ : ∃ D0 : WD, Hid (MR w7.heap.size es u9 D0 0 wr) ∧ Hid (D0.fields.length ≤ 64 ∧ D0.infos.length = D0.fields.length ∧ D0.marks.length = D0.fields.length ∧ D0.states.length ≤ 64 ∧ D0.frozen.length = D0.states.length ∧ ∀ i, (D0.fields.getD i []).length ≤ 64) :=
        ⟨seenW d1 l1, Lib.hid (MR.start HWL.out), Lib.hid (by
          have h1 := seen_small d1 l1 hl1
          have h2 := seen_form d1 l1
          refine ⟨h1.2.2.1, h2.1, h2.2.1, h1.2.2.2.2.2.1, h2.2.2, fun i => ?_⟩
          rcases Nat.lt_or_ge i (seenW d1 l1).fields.length with h | h
          · rw [List.getD_eq_getElem?_getD, List.getElem?_eq_getElem h]; exact h1.2.2.2.2.2.2.2 _ (List.getElem_mem h)
          · rw [List.getD_eq_getElem?_getD, List.getElem?_eq_none h]; exact Nat.zero_le _)⟩
      clear HWL
      obtain ⟨g9, c9, hv9, hc9⟩ : ∃ g9 c9, u9 = .slice (some ⟨g9, 0, none⟩) 2 c9 ∧ 2 ≤ c9 := by
        obtain ⟨_, _, _, _, _, _, g9, c9, _, _, hv9, hc9, _⟩ := (HMR.out.open_ (by omega : 0 < 2)).opens
        exact ⟨g9, c9, hv9, hc9⟩
      subst hv9
      have hn0 : D0.fields.length ≤ 64 := HSD.out.1
      have hs0 : D0.states.length ≤ 64 := HSD.out.2.2.2.1
      go_wp2_with fail
      go_loopw [16] (fun k wl => ∃ q : Nat, q ≤ 2 ∧ k = .int .i64 q ∧ Below w7.heap.size w7 wl ∧ MR w7.heap.size es (.slice (some ⟨g9, 0, none⟩) 2 c9) D0 q wl) (fun k _ => 2 - (intOf k).toNat)
      case atStart => exact ⟨0, by omega, rfl, HBR.out, HMR.out⟩
      case round =>
        obtain ⟨q, hq, rfl, hbl, hm⟩ := hrel
        have HB := Lib.hid hbl
        have HM := Lib.hid hm
        clear hbl hm
        by_cases hltq : q < 2
        · as_aux_lemma =>
            go_wp2_with fail
            go_loopw [17] (fun k w4 => ∃ i : Nat, i ≤ D0.fields.length ∧ k = .int .i64 i ∧ Below w7.heap.size w7 w4 ∧ ∃ D, MS w7.heap.size es (.slice (some ⟨g9, 0, none⟩) 2 c9) D0 q D w4 ∧ MW q D0 D i 0 i i 0 0) (fun k _ => D0.fields.length - (intOf k).toNat)
            case atStart => exact ⟨0, Nat.zero_le _, rfl, HB.out, _, HM.out.open_ hltq, MW.zero _ _⟩
            case round =>
              obtain ⟨i, hi, rfl, hbl, D, hms, hmw⟩ := hrel
              have HB4 := Lib.hid hbl
              have HMS := Lib.hid hms
              have HMW := Lib.hid hmw
              clear hbl hms hmw
              by_cases hlti : i < D0.fields.length
              · as_aux_lemma =>
                  obtain ⟨fv, iv, mv, sv, zv, bs, g0, c0, he, ho, hv, hcz, k0, k1, k2, k3, k4⟩ := HMS.out.opens
                  simp only [Value.slice.injEq, Option.some.injEq, Addr.mk.injEq, true_and, and_true] at hv
                  obtain ⟨rfl, rfl⟩ := hv
                  have HE := Lib.hid he
                  have HO := Lib.hid ho
                  clear he ho hcz
                  obtain ⟨m, hm⟩ : ∃ m, m = (D0.fields.getD i []).length := ⟨_, rfl⟩
                  have hm0 : m ≤ 64 := by rw [hm]; exact HSD.out.2.2.2.2.2 i
                  have HM0 := Lib.hid hm
                  clear hm
                  obtain ⟨ad, ca, u, A, ca2, rfl, hu, hd, _, rfl, hc, hown⟩ := HO.out.rowM HMW.out hlti HM0.out
                  clear hu hd hown hc k1 k2 k3 k4
                  go_wp2_with fail
                  clear k0
                  go_loopw [18] (fun k w5 => ∃ j : Nat, j ≤ m ∧ k = .int .i64 j ∧ Below w7.heap.size w7 w5 ∧ ∃ D, MS w7.heap.size es (.slice (some ⟨g9, 0, none⟩) 2 c9) D0 q D w5 ∧ MW q D0 D i j i i 0 0) (fun k _ => m - (intOf k).toNat)
                  case atStart => exact ⟨0, Nat.zero_le _, rfl, HB4.out, _, HMS.out, HMW.out⟩
                  case round =>
                    clear HMS HMW HB4 HE HO
                    obtain ⟨j, hj, rfl, hbl, D5, hms, hmw⟩ := hrel
                    have HB5 := Lib.hid hbl
                    have HMS := Lib.hid hms
                    have HMW := Lib.hid hmw
                    clear hbl hms hmw
                    by_cases hltj : j < m
                    · as_aux_lemma =>
                        obtain ⟨fv, iv, mv, sv, zv, bs, g0, c0, he, ho, hv, hcz, k0, k1, k2, k3, k4⟩ := HMS.out.opens
                        simp only [Value.slice.injEq, Option.some.injEq, Addr.mk.injEq, true_and, and_true] at hv
                        obtain ⟨rfl, rfl⟩ := hv
                        have HE := Lib.hid he
                        have HO := Lib.hid ho
                        clear he ho hcz
                        obtain ⟨ad, ca, ad2, ca2, x0, _, rfl, hc, hc2, hs⟩ := HO.out.atFM HMW.out hlti HM0.out hltj
                        have hfz := (hs _ HO.out).1
                        have HX := Lib.hid (fun (X : Value) (hX : X = .int .i64 (1000 * q + 100 * i + j)) => show (Below w7.heap.size w7 (wr.setCell (ad2.add j) X) ∧ ∃ D, MS w7.heap.size es (.slice (some ⟨g9, 0, none⟩) 2 c9) D0 q D (wr.setCell (ad2.add j) X) ∧ MW q D0 D i (j + 1) i i 0 0) from by
                          subst hX
                          have h9 := HMS.out.step HB5.out (Nat.le_refl _) HE.out ((hs _ HO.out).2 (1000 * q + 100 * i + j)).1 ((hs _ HO.out).2 (1000 * q + 100 * i + j)).2
                          exact ⟨h9.1, _, h9.2, HMW.out.setF hlti (by rw [← HM0.out]; exact hltj)⟩)
                        clear hs k1 k2 k3 k4
                        go_wp2
                        go_roundw
                        case rel => exact ⟨j + 1, by omega, by go_num, HX.out _ (by first | rfl | go_num)⟩
                        case measure => simp [intOf]; omega
                    · as_aux_lemma =>
                        have hje : j = m := by omega
                        subst hje
                        obtain ⟨fv, iv, mv, sv, zv, bs, g0, c0, he, ho, hv, hcz, k0, k1, k2, k3, k4⟩ := HMS.out.opens
                        simp only [Value.slice.injEq, Option.some.injEq, Addr.mk.injEq, true_and, and_true] at hv
                        obtain ⟨rfl, rfl⟩ := hv
                        have HE := Lib.hid he
                        have HO := Lib.hid ho
                        clear he ho hcz
                        obtain ⟨ad, ca, u, A, ca2, rfl, hu, hd, hdl, rfl, hc, hown⟩ := HO.out.rowM HMW.out hlti HM0.out
                        have HU := Lib.hid hu
                        have HD := Lib.hid hd
                        have HDL := Lib.hid hdl
                        have HOW := Lib.hid hown
                        clear hu hd hdl hown k1 k2 k3 k4
                        go_wp2_with (at_builtin; refine print_append_drop (W := wr) w7.heap.size rfl _ _ 23 TII (.int .i64 0) 8 rfl Try.underlying23 tinfo_int rfl (by decide) (.slice A j ca2) _ _ (.int .i64 (-5)) rfl rfl rfl HOW.out (by rw [HDL.out]; omega) ?_)
                        intro v1' w8 hown hg
                        have h9 := HMS.out.drop HB5.out (Nat.le_refl _) HE.out HO.out HU.out HD.out hown hg
                        have HB8 := Lib.hid h9.1
                        have HM8 := Lib.hid h9.2
                        clear hown hg h9 HMS HE HO HU HD HDL HOW HB5 k0 hc
                        obtain ⟨fv, iv, mv, sv, zv, bs, g0, c0, he, ho, hv, hcz, k0, k1, k2, k3, k4⟩ := HM8.out.opens
                        simp only [Value.slice.injEq, Option.some.injEq, Addr.mk.injEq, true_and, and_true] at hv
                        obtain ⟨rfl, rfl⟩ := hv
                        obtain ⟨ai, ci, x1, _, rfl, hci, hsi⟩ := ho.atIM HMW.out HSD.out.2.1 hlti
                        have hfi := (hsi _ ho).1
                        have h9 := HM8.out.step HB8.out (Nat.le_refl _) he ((hsi _ ho).2 (5000 + 1000 * q + i)).1 ((hsi _ ho).2 (5000 + 1000 * q + i)).2
                        have HW9 := Lib.hid (HMW.out.setI (by rw [HSD.out.2.1]; exact hlti))
                        have HB9 := Lib.hid h9.1
                        have HM9 := Lib.hid h9.2
                        clear hcz he ho hsi h9 k0 k2 k3 k4 HM8 HB8 HMW
                        obtain ⟨fv', iv', mv', sv', zv', bs', g0, c0, he, ho, hv, hcz, k5, k6, k7, k8, k9⟩ := HM9.out.opens
                        simp only [Value.slice.injEq, Option.some.injEq, Addr.mk.injEq, true_and, and_true] at hv
                        obtain ⟨rfl, rfl⟩ := hv
                        obtain ⟨am, cm, x2, _, rfl, hcm, hsm⟩ := ho.atMM HW9.out HSD.out.2.2.1 hlti
                        have hfm := (hsm _ ho).1
                        have HX := Lib.hid (fun (X : Value) (hX : X = .bool (decide (q = 0))) => show (Below w7.heap.size w7 ((w8.setCell (ai.add i) (.int .i64 (5000 + 1000 * q + i))).setCell (am.add i) X) ∧ ∃ D, MS w7.heap.size es (.slice (some ⟨g9, 0, none⟩) 2 c9) D0 q D ((w8.setCell (ai.add i) (.int .i64 (5000 + 1000 * q + i))).setCell (am.add i) X) ∧ MW q D0 D (i + 1) 0 (i + 1) (i + 1) 0 0) from by
                          subst hX
                          have h9 := HM9.out.step HB9.out (Nat.le_refl _) he ((hsm _ ho).2 (decide (q = 0))).1 ((hsm _ ho).2 (decide (q = 0))).2
                          exact ⟨h9.1, _, h9.2, (HW9.out.setM (by rw [HSD.out.2.2.1]; exact hlti)).row (by rw [← HM0.out]; exact Nat.le_refl _)⟩)
                        clear hcz he ho hsm k5 k6 k8 k9 HM9 HB9 HW9
                        go_wp2
                        go_roundw
                        case rel => exact ⟨i + 1, by omega, by go_num, HX.out _ (by rcases (show q = 0 ∨ q = 1 by omega) with h | h <;> subst h <;> rfl)⟩
                        case measure => simp [intOf]; omega
              · as_aux_lemma =>
                  have hie : i = D0.fields.length := by omega
                  subst hie
                  obtain ⟨fv, iv, mv, sv, zv, bs, g0, c0, he, ho, hv, hcz, k0, k1, k2, k3, k4⟩ := HMS.out.opens
                  simp only [Value.slice.injEq, Option.some.injEq, Addr.mk.injEq, true_and, and_true] at hv
                  obtain ⟨rfl, rfl⟩ := hv
                  have HE := Lib.hid he
                  have HO := Lib.hid ho
                  clear he ho hcz
                  obtain ⟨A, ca, rfl⟩ := HO.out.lenF HMW.out
                  clear k1 k2 k3 k4
                  go_wp2_with fail
                  clear k0 HE HO
                  go_loopw [19] (fun k w6 => ∃ s : Nat, s ≤ D0.states.length ∧ k = .int .i64 s ∧ Below w7.heap.size w7 w6 ∧ ∃ D, MS w7.heap.size es (.slice (some ⟨g9, 0, none⟩) 2 c9) D0 q D w6 ∧ MW q D0 D D0.fields.length 0 D0.fields.length D0.fields.length s s) (fun k _ => D0.states.length - (intOf k).toNat)
                  case atStart => exact ⟨0, Nat.zero_le _, rfl, HB4.out, _, HMS.out, HMW.out⟩
                  case round =>
                    clear HMS HMW HB4
                    obtain ⟨s, hs, rfl, hbl, D6, hms, hmw⟩ := hrel
                    have HB5 := Lib.hid hbl
                    have HMS := Lib.hid hms
                    have HMW := Lib.hid hmw
                    clear hbl hms hmw
                    by_cases hlts : s < D0.states.length
                    · as_aux_lemma =>
                        obtain ⟨fv, iv, mv, sv, zv, bs, g0, c0, he, ho, hv, hcz, k0, k1, k2, k3, k4⟩ := HMS.out.opens
                        simp only [Value.slice.injEq, Option.some.injEq, Addr.mk.injEq, true_and, and_true] at hv
                        obtain ⟨rfl, rfl⟩ := hv
                        obtain ⟨ai, ci, x1, _, rfl, hci, hsi⟩ := ho.atSM HMW.out hlts
                        have hfi := (hsi _ ho).1
                        have h9 := HMS.out.step HB5.out (Nat.le_refl _) he ((hsi _ ho).2 (9000 + 1000 * q + s)).1 ((hsi _ ho).2 (9000 + 1000 * q + s)).2
                        have HW9 := Lib.hid (HMW.out.setS hlts)
                        have HB9 := Lib.hid h9.1
                        have HM9 := Lib.hid h9.2
                        clear hcz he ho hsi h9 k0 k1 k2 k4 HMS HB5 HMW
                        obtain ⟨fv', iv', mv', sv', zv', bs', g0, c0, he, ho, hv, hcz, k5, k6, k7, k8, k9⟩ := HM9.out.opens
                        simp only [Value.slice.injEq, Option.some.injEq, Addr.mk.injEq, true_and, and_true] at hv
                        obtain ⟨rfl, rfl⟩ := hv
                        obtain ⟨am, cm, x2, _, rfl, hcm, hsm⟩ := ho.atZM HW9.out HSD.out.2.2.2.2.1 hlts
                        have hfm := (hsm _ ho).1
                        have HX := Lib.hid (fun (X : Value) (hX : X = .bool (decide (q = 0))) => show (Below w7.heap.size w7 ((wr.setCell (ai.add s) (.int .i64 (9000 + 1000 * q + s))).setCell (am.add s) X) ∧ ∃ D, MS w7.heap.size es (.slice (some ⟨g9, 0, none⟩) 2 c9) D0 q D ((wr.setCell (ai.add s) (.int .i64 (9000 + 1000 * q + s))).setCell (am.add s) X) ∧ MW q D0 D D0.fields.length 0 D0.fields.length D0.fields.length (s + 1) (s + 1)) from by
                          subst hX
                          have h9 := HM9.out.step HB9.out (Nat.le_refl _) he ((hsm _ ho).2 (decide (q = 0))).1 ((hsm _ ho).2 (decide (q = 0))).2
                          exact ⟨h9.1, _, h9.2, HW9.out.setZ (by rw [HSD.out.2.2.2.2.1]; exact hlts)⟩)
                        clear hcz he ho hsm k5 k6 k7 k8 HM9 HB9 HW9
                        go_wp2
                        go_roundw
                        case rel => exact ⟨s + 1, by omega, by go_num, HX.out _ (by rcases (show q = 0 ∨ q = 1 by omega) with h | h <;> subst h <;> rfl)⟩
                        case measure => simp [intOf]; omega
                    · as_aux_lemma =>
                        have hse : s = D0.states.length := by omega
                        subst hse
                        obtain ⟨fv, iv, mv, sv, zv, bs, g0, c0, he, ho, hv, hcz, k0, k1, k2, k3, k4⟩ := HMS.out.opens
                        simp only [Value.slice.injEq, Option.some.injEq, Addr.mk.injEq, true_and, and_true] at hv
                        obtain ⟨rfl, rfl⟩ := hv
                        have HE := Lib.hid he
                        have HO := Lib.hid ho
                        clear he ho hcz
                        obtain ⟨A, ca, rfl⟩ := HO.out.lenS HMW.out
                        have HR := Lib.hid (HMS.out.close (show MW q D0 D6 D0.fields.length 0 D0.infos.length D0.marks.length D0.states.length D0.frozen.length from by rw [HSD.out.2.1, HSD.out.2.2.1, HSD.out.2.2.2.2.1]; exact HMW.out))
                        clear k0 k1 k2 k4 HE HO HMS HMW
                        go_wp2
                        go_roundw
                        case rel => exact ⟨q + 1, by omega, by go_num, HB5.out, HR.out⟩
                        case measure => simp [intOf]; omega
        · have hqe : q = 2 := by omega
          subst hqe
          have HMR2 := Lib.hid HM.out
          have HRX := Lib.hid (HRO.out.below HB.out)
          clear HMR HM
          go_wp2_with fail
          go_loopw [20] (fun k wl => ∃ q : Nat, q ≤ 2 ∧ k = .int .i64 q ∧ wl = wr) (fun k _ => 2 - (intOf k).toNat)
          case atStart => exact ⟨0, by omega, rfl, rfl⟩
          case round =>
            obtain ⟨q, hq, rfl, hw⟩ := hrel
            subst hw
            by_cases hltq : q < 2
            · as_aux_lemma =>
                have hbq : decide (q = 0) = ((q : Int) == 0) := by rcases (show q = 0 ∨ q = 1 by omega) with h | h <;> subst h <;> rfl
                have HBQ := Lib.hid hbq
                clear hbq
                go_wp2_with fail
                go_loopw [21] (fun k wl => ∃ i : Nat, i ≤ D0.fields.length ∧ k = .int .i64 i ∧ wl = wr) (fun k _ => D0.fields.length - (intOf k).toNat)
                case atStart => exact ⟨0, Nat.zero_le _, rfl, rfl⟩
                case round =>
                  obtain ⟨i, hi, rfl, hw⟩ := hrel
                  subst hw
                  obtain ⟨fv, iv, mv, sv, zv, bs, D, g0, c0, ho, hF, hv, hcz, k0, k1, k2, k3, k4⟩ := HMR2.out.opens hltq
                  simp only [Value.slice.injEq, Option.some.injEq, Addr.mk.injEq, true_and, and_true] at hv
                  obtain ⟨rfl, rfl⟩ := hv
                  have HO := Lib.hid ho
                  have HF := Lib.hid hF
                  clear ho hF hcz k3 k4
                  by_cases hlti : i < D0.fields.length
                  · as_aux_lemma =>
                      obtain ⟨m, hm⟩ : ∃ m, m = (D0.fields.getD i []).length := ⟨_, rfl⟩
                      have hm0 : m ≤ 64 := by rw [hm]; exact HSD.out.2.2.2.2.2 i
                      have HM0 := Lib.hid hm
                      clear hm
                      obtain ⟨ad, ca, u, A, ca2, rfl, _, _, _, rfl, hc, _⟩ := HO.out.rowM HF.out hlti HM0.out
                      clear k1 k2
                      go_wp2_with fail
                      go_loopw [22] (fun k wl => ∃ j : Nat, j ≤ m ∧ k = .int .i64 j ∧ wl = wr) (fun k _ => m - (intOf k).toNat)
                      case atStart => exact ⟨0, Nat.zero_le _, rfl, rfl⟩
                      case round =>
                        clear hc k0 HO HF
                        obtain ⟨j, hj, rfl, hw⟩ := hrel
                        subst hw
                        obtain ⟨fv, iv, mv, sv, zv, bs, D, g0, c0, ho, hF, hv, hcz, k0, k1, k2, k3, k4⟩ := HMR2.out.opens hltq
                        simp only [Value.slice.injEq, Option.some.injEq, Addr.mk.injEq, true_and, and_true] at hv
                        obtain ⟨rfl, rfl⟩ := hv
                        have HO := Lib.hid ho
                        have HF := Lib.hid hF
                        clear ho hF hcz k3 k4
                        by_cases hltj : j < m
                        · as_aux_lemma =>
                            obtain ⟨ad, ca, ad2, ca2, x0, hx0, rfl, hc, hc2, _⟩ := HO.out.atFM HF.out hlti HM0.out hltj
                            rw [HF.out.f i j (.inl hlti) hlti (by rw [← HM0.out]; exact hltj)] at hx0
                            subst hx0
                            clear k1 k2
                            go_wp2
                            go_roundw
                            case rel => exact ⟨j + 1, by omega, by go_num, by first | trivial | rfl⟩
                            case measure => simp [intOf]; omega
                        · as_aux_lemma =>
                            have hje : j = m := by omega
                            subst hje
                            obtain ⟨ad, ca, u, A, ca2, rfl, _, _, _, rfl, hc, _⟩ := HO.out.rowM HF.out hlti HM0.out
                            obtain ⟨ai, ci, x1, hx1, rfl, hci, _⟩ := HO.out.atIM HF.out HSD.out.2.1 hlti
                            rw [HF.out.nI i (by rw [HSD.out.2.1]; exact hlti) (by rw [HSD.out.2.1]; exact hlti)] at hx1
                            subst hx1
                            obtain ⟨am, cm, x2, hx2, rfl, hcm, _⟩ := HO.out.atMM HF.out HSD.out.2.2.1 hlti
                            rw [HF.out.nM i (by rw [HSD.out.2.2.1]; exact hlti) (by rw [HSD.out.2.2.1]; exact hlti), HBQ.out] at hx2
                            subst hx2
                            go_wp2
                            go_roundw
                            case rel => exact ⟨i + 1, by omega, by go_num, by first | trivial | rfl⟩
                            case measure => simp [intOf]; omega
                  · as_aux_lemma =>
                      have hie : i = D0.fields.length := by omega
                      subst hie
                      obtain ⟨A, ca, rfl⟩ := HO.out.lenF HF.out
                      clear k1 k2
                      go_wp2_with fail
                      go_loopw [23] (fun k wl => ∃ s : Nat, s ≤ D0.states.length ∧ k = .int .i64 s ∧ wl = wr) (fun k _ => D0.states.length - (intOf k).toNat)
                      case atStart => exact ⟨0, Nat.zero_le _, rfl, rfl⟩
                      case round =>
                        clear k0 HO HF
                        obtain ⟨s, hs, rfl, hw⟩ := hrel
                        subst hw
                        obtain ⟨fv, iv, mv, sv, zv, bs, D, g0, c0, ho, hF, hv, hcz, k0, k1, k2, k3, k4⟩ := HMR2.out.opens hltq
                        simp only [Value.slice.injEq, Option.some.injEq, Addr.mk.injEq, true_and, and_true] at hv
                        obtain ⟨rfl, rfl⟩ := hv
                        have HO := Lib.hid ho
                        have HF := Lib.hid hF
                        clear ho hF hcz k0 k1 k2
                        by_cases hlts : s < D0.states.length
                        · as_aux_lemma =>
                            obtain ⟨ai, ci, x1, hx1, rfl, hci, _⟩ := HO.out.atSM HF.out hlts
                            rw [HF.out.nS s hlts hlts] at hx1
                            subst hx1
                            obtain ⟨am, cm, x2, hx2, rfl, hcm, _⟩ := HO.out.atZM HF.out HSD.out.2.2.2.2.1 hlts
                            rw [HF.out.nZ s (by rw [HSD.out.2.2.2.2.1]; exact hlts) (by rw [HSD.out.2.2.2.2.1]; exact hlts), HBQ.out] at hx2
                            subst hx2
                            go_wp2
                            go_roundw
                            case rel => exact ⟨s + 1, by omega, by go_num, by first | trivial | rfl⟩
                            case measure => simp [intOf]; omega
                        · as_aux_lemma =>
                            have hse : s = D0.states.length := by omega
                            subst hse
                            obtain ⟨A, ca, rfl⟩ := HO.out.lenS HF.out
                            go_wp2
                            go_roundw
                            case rel => exact ⟨q + 1, by omega, by go_num, by first | trivial | rfl⟩
                            case measure => simp [intOf]; omega
            · have hqe : q = 2 := by omega
              subst hqe
              clear HMR2
              have hp0 := HRX.out.par.cell 0
              have hp1 := HRX.out.par.cell 1
              have hp2 := HRX.out.par.cell 2
              have hp3 := HRX.out.par.cell 3
              have hp4 := HRX.out.par.cell 4
              have hp5 := HRX.out.par.cell 5
              simp only [List.getElem?_cons_zero, List.getElem?_cons_succ] at hp0 hp1 hp2 hp3 hp4 hp5
              go_wp2_with fail
              clear hp0 hp1 hp2 hp3 hp4
              go_loopw [24] (fun k wl => ∃ i : Nat, i ≤ l1.length ∧ k = .int .i64 i ∧ Below w7.heap.size w7 wl) (fun k _ => l1.length - (intOf k).toNat)
              case atStart => exact ⟨0, Nat.zero_le _, rfl, HB.out⟩
              case round =>
                clear HB HRX hp5
                obtain ⟨i, hi, rfl, hbl⟩ := hrel
                have HB := Lib.hid hbl
                clear hbl
                have HRX := Lib.hid (HRO.out.below HB.out)
                have hp5 := HRX.out.par.cell 5
                simp only [List.getElem?_cons_zero, List.getElem?_cons_succ] at hp5
                by_cases hlti : i < l1.length
                · as_aux_lemma =>
                    obtain ⟨b5, o5, b6, o6, x, rfl, rfl, ⟨y0, y1, y2, y3, y4⟩, z0, z1, z2, z3, z4⟩ := acts_pair HRX.out.ac HRX.out.ax hlti
                    have hI1 : (i : Int) < (l1.length : Int) := by omega
                    have hI2 : (i : Int) < (l1.length : Int) + 1 := by omega
                    go_wp2
                    simp only [List.append]
                    go_big_quiet (fail)
                    go_wp2
                    go_roundw
                    case rel => exact ⟨i + 1, by omega, by go_num, by first | exact HB.out.drewN _ | exact pw_below_drewN HB.out _⟩
                    case measure => simp [intOf]; omega
                · as_aux_lemma =>
                    have hie : i = l1.length := by omega
                    subst hie
                    go_wp2_with fail
                    obtain ⟨wf, rfl⟩ : ∃ x : World, x = wr := ⟨_, rfl⟩
                    obtain ⟨b5, o5, rfl, hla⟩ := acts_last HRX.out.ac
                    have HLA := Lib.hid hla
                    clear hla hp5
                    obtain ⟨B0, hB0⟩ : ∃ B, B = wf.drew.heap.size := ⟨_, rfl⟩
                    have HBQ := Lib.hid (show ∀ w'', Below B0 wf.drew w'' → Below wf.heap.size wf w'' from fun _ hb => ⟨hb.os, hb.tape, hb.output, hb.size, by rw [hB0] at hb; exact hb.block⟩)
                    have HBS := Lib.hid (show ∀ w'', Below B0 wf.drew w'' → B0 ≤ w''.heap.size from fun _ hb => by rw [hB0]; exact hb.size)
                    clear hB0
                    have HRE := Lib.hid (fun w'' (hb : Below B0 wf.drew w'') => HRX.out.rx.below (HBQ.out w'' hb))
                    have HRL := Lib.hid (fun w'' (hb : Below B0 wf.drew w'') => HRX.out.rw_.below (HBQ.out w'' hb))
                    have HCL := Lib.hid (fun w'' (hb : Below B0 wf.drew w'') => pw_cell_below (w := wf) (HBQ.out w'' hb) HLA.out)
                    have HCW0 := Lib.hid (fun w'' (hb : Below B0 wf.drew w'') => pw_cell_below (w := wf) (HBQ.out w'' hb) (HRX.out.bw.cell 0))
                    have HCW1 := Lib.hid (fun w'' (hb : Below B0 wf.drew w'') => pw_cell_below (w := wf) (HBQ.out w'' hb) (HRX.out.bw.cell 1))
                    have HCW2 := Lib.hid (fun w'' (hb : Below B0 wf.drew w'') => pw_cell_below (w := wf) (HBQ.out w'' hb) (HRX.out.bw.cell 2))
                    have HCW3 := Lib.hid (fun w'' (hb : Below B0 wf.drew w'') => pw_cell_below (w := wf) (HBQ.out w'' hb) (HRX.out.bw.cell 3))
                    have HCW4 := Lib.hid (fun w'' (hb : Below B0 wf.drew w'') => pw_cell_below (w := wf) (HBQ.out w'' hb) (HRX.out.bw.cell 4))
                    have HCP0 := Lib.hid (fun w'' (hb : Below B0 wf.drew w'') => pw_cell_below (w := wf) (HBQ.out w'' hb) (HRX.out.par.cell 0))
                    have HCP1 := Lib.hid (fun w'' (hb : Below B0 wf.drew w'') => pw_cell_below (w := wf) (HBQ.out w'' hb) (HRX.out.par.cell 1))
                    have HCP2 := Lib.hid (fun w'' (hb : Below B0 wf.drew w'') => pw_cell_below (w := wf) (HBQ.out w'' hb) (HRX.out.par.cell 2))
                    have HCP3 := Lib.hid (fun w'' (hb : Below B0 wf.drew w'') => pw_cell_below (w := wf) (HBQ.out w'' hb) (HRX.out.par.cell 3))
                    have HCP4 := Lib.hid (fun w'' (hb : Below B0 wf.drew w'') => pw_cell_below (w := wf) (HBQ.out w'' hb) (HRX.out.par.cell 4))
                    have HCP5 := Lib.hid (fun w'' (hb : Below B0 wf.drew w'') => pw_cell_below (w := wf) (HBQ.out w'' hb) (HRX.out.par.cell 5))
                    have HFIN := Lib.hid (show ∀ w'', Below B0 wf.drew w'' → Below w.heap.size w w'' from fun w'' hb => HBB.out.trans ((HB7.out.trans ((HB.out.trans ((HBQ.out w'' hb).mono HB.out.size)).mono HB7.out.size)).mono HBB.out.size))
                    clear HRX HRO HB HBR HBQ HA HVB HG3 HLA
                    refine start_ (n := 16) (S := fun w' => Below B0 wf.drew w') (ds := []) #[false, false, false, false, false, false, false, false, false, false, false, false, false, false, false, false] (by kernel_rfl) rfl rfl (Below.refl _ _) (fun hHeld => ?_)
                    have S1 : Below B0 wf.drew wf.drew := Below.refl _ _
                    generalize wf.drew = wR at *
                    refine take_ (i := 0) (N := some 397) (v := vw.val d1) (a' := ?_) #[true, false, false, false, false, false, false, false, false, false, false, false, false, false, false, false] rfl rfl (by kernel_rfl) (fun _ _ _ h => h) (Or.inl ⟨by rfl, ?_⟩) hHeld ?_ ?_
                    · rintro w' s0
                      have hc0 := HCW0.out w' s0
                      have hc1 := HCW1.out w' s0
                      have hc2 := HCW2.out w' s0
                      have hc3 := HCW3.out w' s0
                      have hc4 := HCW4.out w' s0
                      go_simp
                    rotate_left
                    · simp only [Act.put, List.setIfInBounds_toArray, List.set_cons_zero, List.set_cons_succ]
                      rfl
                    refine pure_ (i := 2) (N := some 399) (v := ?_) (a' := ?_) #[true, false, true, false, false, false, false, false, false, false, false, false, false, false, false, false] rfl rfl (by kernel_rfl) (fun _ _ _ h => h) (Or.inl ⟨by rfl, ?_⟩) ?_ ?_
                    rotate_left
                    · intro w'
                      go_simp
                      with_reducible rfl
                    rotate_left
                    · simp only [Act.put, List.setIfInBounds_toArray, List.set_cons_zero, List.set_cons_succ]
                      rfl
                    refine take_ (i := 3) (N := some 400) (v := v1.val d1) (a' := ?_) #[true, false, true, true, false, false, false, false, false, false, false, false, false, false, false, false] rfl rfl (by kernel_rfl) (fun _ _ _ h => h) (Or.inl ⟨by rfl, ?_⟩) hHeld ?_ ?_
                    · rintro w' s0
                      have hc0 := HCP0.out w' s0
                      have hc1 := HCP1.out w' s0
                      have hc2 := HCP2.out w' s0
                      have hc3 := HCP3.out w' s0
                      have hc4 := HCP4.out w' s0
                      go_simp
                    rotate_left
                    · simp only [Act.put, List.setIfInBounds_toArray, List.set_cons_zero, List.set_cons_succ]
                      rfl
                    refine one_ (i := 1) (N := some 398) #[true, true, true, true, false, false, false, false, false, false, false, false, false, false, false, false] rfl rfl (by kernel_rfl) (by decide) (fun K hK => ?_)
                    refine goes_ Try.func23 (by kernel_rfl) rfl #[vw.val d1] (by rfl) rfl rfl (by simp [Act.eval]) ?_
                    refine (law_ours wR vw d1).mono ?_
                    rintro e wn4 ⟨rfl, hbl⟩
                    refine ⟨_, rfl, hK.out _ _ (S1.trans (hbl.mono (HBS.out _ S1))) (fun hHeld => ?_)⟩
                    simp only [Act.put, List.setIfInBounds_toArray, List.set_cons_zero, List.set_cons_succ]
                    have S4 := S1.trans (hbl.mono (HBS.out _ S1))
                    clear hK hbl S1
                    refine one_ (i := 4) (N := some 401) #[true, true, true, true, true, false, false, false, false, false, false, false, false, false, false, false] rfl rfl (by kernel_rfl) (by decide) (fun K hK => ?_)
                    refine goes_ Try.func22 (by kernel_rfl) rfl #[vw.val d1, v1.val d1] (by rfl) rfl rfl (by simp [Act.eval]) ?_
                    obtain ⟨⟨a0, a1, a2, a3, a4⟩, a5, _, _, _, a9⟩ := HLL.out
                    refine (ref_Same wn4 vw v1 d1 (HRL.out _ S4) (HRE.out _ S4) (by omega) a9 (by omega) (by omega) (by omega) (fun r hr => by have := a5 r hr; omega)).mono ?_
                    rintro e wn5 ⟨rfl, hbl⟩
                    refine ⟨_, rfl, hK.out _ _ (S4.trans (hbl.mono (HBS.out _ S4))) (fun hHeld => ?_)⟩
                    simp only [Act.put, List.setIfInBounds_toArray, List.set_cons_zero, List.set_cons_succ]
                    have S5 := S4.trans (hbl.mono (HBS.out _ S4))
                    clear hK hbl S4 a0 a1 a2 a3 a4 a5 a9
                    refine pure_ (i := 5) (N := some 402) (v := ?_) (a' := ?_) #[true, true, true, true, true, true, false, false, false, false, false, false, false, false, false, false] rfl rfl (by kernel_rfl) (fun _ _ _ h => h) (Or.inl ⟨by rfl, ?_⟩) ?_ ?_
                    rotate_left
                    · intro w'
                      go_simp
                      with_reducible rfl
                    rotate_left
                    · simp only [Act.put, List.setIfInBounds_toArray, List.set_cons_zero, List.set_cons_succ]
                      rfl
                    refine pure_ (i := 6) (N := some 403) (v := ?_) (a' := ?_) #[true, true, true, true, true, true, true, false, false, false, false, false, false, false, false, false] rfl rfl (by kernel_rfl) (fun _ _ _ h => h) (Or.inl ⟨by rfl, ?_⟩) ?_ ?_
                    rotate_left
                    · intro w'
                      go_simp
                      with_reducible rfl
                    rotate_left
                    · simp only [Act.put, List.setIfInBounds_toArray, List.set_cons_zero, List.set_cons_succ]
                      rfl
                    refine pure_ (i := 7) (N := some 404) (v := ?_) (a' := ?_) #[true, true, true, true, true, true, true, true, false, false, false, false, false, false, false, false] rfl rfl (by kernel_rfl) (fun _ _ _ h => h) (Or.inl ⟨by rfl, ?_⟩) ?_ ?_
                    rotate_left
                    · intro w'
                      go_simp
                      with_reducible rfl
                    rotate_left
                    · simp only [Act.put, List.setIfInBounds_toArray, List.set_cons_zero, List.set_cons_succ]
                      rfl
                    refine take_ (i := 8) (N := some 405) (v := .slice A l1.length c) (a' := ?_) #[true, true, true, true, true, true, true, true, true, false, false, false, false, false, false, false] rfl rfl (by kernel_rfl) (fun _ _ _ h => h) (Or.inl ⟨by rfl, ?_⟩) hHeld ?_ ?_
                    · rintro w' s0
                      have hc5 := HCP5.out w' s0
                      go_simp
                    rotate_left
                    · simp only [Act.put, List.setIfInBounds_toArray, List.set_cons_zero, List.set_cons_succ]
                      rfl
                    refine pure_ (i := 9) (N := some 406) (v := ?_) (a' := ?_) #[true, true, true, true, true, true, true, true, true, true, false, false, false, false, false, false] rfl rfl (by kernel_rfl) (fun _ _ _ h => h) (Or.inl ⟨by rfl, ?_⟩) ?_ ?_
                    rotate_left
                    · intro w'
                      go_simp
                      with_reducible rfl
                    rotate_left
                    · simp only [Act.put, List.setIfInBounds_toArray, List.set_cons_zero, List.set_cons_succ]
                      rfl
                    refine pure_ (i := 10) (N := some 407) (v := .pointer (some ⟨b5, o5 + l1.length * 5, none⟩)) (a' := ?_) #[true, true, true, true, true, true, true, true, true, true, true, false, false, false, false, false] rfl rfl (by kernel_rfl) (fun _ _ _ h => h) (Or.inl ⟨by rfl, ?_⟩) ?_ ?_
                    · intro w'
                      go_simp
                      exact fun h => by omega
                    rotate_left
                    · simp only [Act.put, List.setIfInBounds_toArray, List.set_cons_zero, List.set_cons_succ]
                      rfl
                    refine pure_ (i := 11) (N := some 408) (v := ?_) (a' := ?_) #[true, true, true, true, true, true, true, true, true, true, true, true, false, false, false, false] rfl rfl (by kernel_rfl) (fun _ _ _ h => h) (Or.inl ⟨by rfl, ?_⟩) ?_ ?_
                    rotate_left
                    · intro w'
                      go_simp
                      with_reducible rfl
                    rotate_left
                    · simp only [Act.put, List.setIfInBounds_toArray, List.set_cons_zero, List.set_cons_succ]
                      rfl
                    refine take_ (i := 12) (N := some 409) (v := .int .i64 77) (a' := ?_) #[true, true, true, true, true, true, true, true, true, true, true, true, true, false, false, false] rfl rfl (by kernel_rfl) (fun _ _ _ h => h) (Or.inl ⟨by rfl, ?_⟩) hHeld ?_ ?_
                    · rintro w' s0
                      have hc5 := HCL.out w' s0
                      go_simp
                    rotate_left
                    · simp only [Act.put, List.setIfInBounds_toArray, List.set_cons_zero, List.set_cons_succ]
                      rfl
                    refine pure_ (i := 13) (N := some 410) (v := ?_) (a' := ?_) #[true, true, true, true, true, true, true, true, true, true, true, true, true, true, false, false] rfl rfl (by kernel_rfl) (fun _ _ _ h => h) (Or.inl ⟨by rfl, ?_⟩) ?_ ?_
                    rotate_left
                    · intro w'
                      go_simp
                      with_reducible rfl
                    rotate_left
                    · simp only [Act.put, List.setIfInBounds_toArray, List.set_cons_zero, List.set_cons_succ]
                      rfl
                    refine pure_ (i := 14) (N := some 411) (v := ?_) (a' := ?_) #[true, true, true, true, true, true, true, true, true, true, true, true, true, true, true, false] rfl rfl (by kernel_rfl) (fun _ _ _ h => h) (Or.inl ⟨by rfl, ?_⟩) ?_ ?_
                    rotate_left
                    · intro w'
                      go_simp
                      with_reducible rfl
                    rotate_left
                    · simp only [Act.put, List.setIfInBounds_toArray, List.set_cons_zero, List.set_cons_succ]
                      rfl
                    refine pure_ (i := 15) (N := some 2) (v := ?_) (a' := ?_) #[true, true, true, true, true, true, true, true, true, true, true, true, true, true, true, true] rfl rfl (by kernel_rfl) (fun _ _ _ h => h) (Or.inl ⟨by rfl, ?_⟩) ?_ ?_
                    rotate_left
                    · intro w'
                      go_simp
                      with_reducible rfl
                    rotate_left
                    · simp only [Act.put, List.setIfInBounds_toArray, List.set_cons_zero, List.set_cons_succ]
                      rfl
                    refine done_ (by kernel_rfl) ?_
                    have HF := Lib.hid (HFIN.out _ S5)
                    clear S5 HFIN HBS HRE HRL HCL HCW0 HCW1 HCW2 HCW3 HCW4 HCP0 HCP1 HCP2 HCP3 HCP4 HCP5
                    go_wp2
                    exact HQ'.out _ _ ⟨rfl, HF.out⟩
end Go.Proofs.Ytphhdmopfmelbaa
