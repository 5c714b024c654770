/- Joined texts: Law12F. -/
import Derived.Test.YtphhdmopfmelbaaM4
import Derived.Test.YtphhdmopfmelbaaM6
import Derived.Test.YtphhdmopfmelbaaM7

/- larchlaw12: RecordPlays. Written by p_plays.py. -/
namespace Go.Proofs.Ytphhdmopfmelbaa
open Go.RowKit Go.Proofs.YtphhdmopfmelbaaW.PrintWords Go.Proofs.YtphhdmopfmelbaaW.PrintLast
set_option linter.unusedVariables false
set_option linter.unusedSimpArgs false

abbrev wv0 : WV := ⟨none, 0, none, 0, none, 0, none, 0, none, 0⟩
abbrev wd0 : WD := ⟨[], [], [], [], []⟩
theorem wv0_reads (w : World) : wv0.Reads w wd0 := by
  obtain ⟨⟨A0, c0, A1, c1, A2, c2, A3, c3, A4, c4⟩, e0, e1, e2, e3, e4, hr⟩ := (OutW.empty 0 w).reads
  simp only [Value.slice.injEq] at e0 e1 e2 e3 e4
  obtain ⟨rfl, _, rfl⟩ := e0
  obtain ⟨rfl, _, rfl⟩ := e1
  obtain ⟨rfl, _, rfl⟩ := e2
  obtain ⟨rfl, _, rfl⟩ := e3
  obtain ⟨rfl, _, rfl⟩ := e4
  exact hr
theorem row1_nil (w : World) : Row1 w none 0 (([] : List Int).map (Value.int .i64)) := ⟨rfl, fun h => absurd h (by decide)⟩

set_option maxHeartbeats 4000000 in
set_option maxRecDepth 100000 in
theorem law_plays (w : World) (v : WV) (d : WD) (hv : v.Reads w d) (A : Option Addr) (c : Nat) (l : List ActD) (ha : ActsAt w A l) (hlc : l.length ≤ c) (N M : Int) (hN : -9223372036854775808 ≤ N ∧ N ≤ 9223372036854775807)
    (hl : CaseLen d l) (hr : ∀ r ∈ d.fields, r.length ≤ 1000000000000000) :
    Calls Try.prog 4 #[caseV v d A c l N M] w fun e w' => e = .returned (.bool true) ∧ Below w.heap.size w w' := by
  refine calls_hide fun Q HQ => ?_
  have HQ' := Lib.hid HQ
  have hba := (Below.refl w.heap.size w).alloc (Nat.le_refl _) (.cells (caseC v d A c l.length N M).toArray TCA)
  have HBA := Lib.hid hba
  have HB1 := Lib.hid (Blk.new w TCA (caseC v d A c l.length N M))
  have HV := Lib.hid hv
  have HA := Lib.hid (show ∀ w'', Below w.heap.size w w'' → ActsAt w'' A (l.take 1100) from fun w'' hb => acts_take (ha.below hb) 1100)
  have HL := Lib.hid hl
  have HR := Lib.hid hr
  have HLL := Lib.hid (less_len hl hr)
  clear HQ hv ha hba hl hr
  go_enter Try.func4, Try.ntmps4
  go_wp2_with fail
  generalize w.alloc (.cells (caseC v d A c l.length N M).toArray TCA) = wA at *
  obtain ⟨pb, hpb⟩ : ∃ pb, pb = w.heap.size := ⟨_, rfl⟩
  rw [← hpb]
  have HPB := Lib.hid hpb
  rw [← hpb] at HB1
  clear hpb
  refine (law_fixed wA).mono ?_
  rintro e w1 ⟨rfl, hbl⟩
  have HBW := Lib.hid (HBA.out.trans (hbl.mono HBA.out.size))
  have HB2 := Lib.hid ((Fr.of_below0 (S := fun _ => False) hbl).blk HB1.out id)
  clear hbl HB1 HBA
  have hq0 := HB2.out.cell 0
  have hq1 := HB2.out.cell 1
  have hq2 := HB2.out.cell 2
  have hq3 := HB2.out.cell 3
  have hq4 := HB2.out.cell 4
  have hq5 := HB2.out.cell 5
  have hq6 := HB2.out.cell 6
  have hq7 := HB2.out.cell 7
  -- have hf0 := HB2.out.free ⟨pb, 0, none⟩ rfl
  -- have hf1 := HB2.out.free ⟨pb, 1, none⟩ rfl
  -- have hf2 := HB2.out.free ⟨pb, 2, none⟩ rfl
  -- have hf3 := HB2.out.free ⟨pb, 3, none⟩ rfl
  -- have hf4 := HB2.out.free ⟨pb, 4, none⟩ rfl
  -- have hf5 := HB2.out.free ⟨pb, 5, none⟩ rfl
  -- have hf6 := HB2.out.free ⟨pb, 6, none⟩ rfl
  -- have hf7 := HB2.out.free ⟨pb, 7, none⟩ rfl
  simp only [List.getElem?_cons_zero, List.getElem?_cons_succ] at hq0 hq1 hq2 hq3 hq4 hq5 hq6 hq7
  go_wp2_with fail
  refine (law_less w w1 HBW.out v d HV.out A c l hlc N M ⟨HL.out.1, by have := HL.out.2.1; omega, by have := HL.out.2.2.1; omega, HL.out.2.2.2.1, HL.out.2.2.2.2.1, HL.out.2.2.2.2.2⟩ HR.out).mono ?_
  rintro e w2 ⟨v1, rfl, hrd, hbl⟩
  have HBW2 := Lib.hid (HBW.out.trans (hbl.mono HBW.out.size))
  have HB3 := Lib.hid ((Fr.of_below0 (S := fun _ => False) hbl).blk HB2.out id)
  have HV2 := Lib.hid hrd
  have hl1 : (l.take 1100).length ≤ 1100 := by simp; omega
  have hlc1 : (l.take 1100).length ≤ c := by simp; omega
  have HSZ := Lib.hid (show pb < w1.heap.size from HB2.out.lt)
  clear hbl hrd HBW HB2 HV hlc HL HR hq0 hq1 hq2 hq3 hq4 hq5 hq6 hq7
  generalize l.take 1100 = l1 at *
  generalize lessD d = d1 at *
  have hq0 := HB3.out.cell 0
  have hq1 := HB3.out.cell 1
  have hq2 := HB3.out.cell 2
  have hq3 := HB3.out.cell 3
  have hq4 := HB3.out.cell 4
  have hq5 := HB3.out.cell 5
  have hq6 := HB3.out.cell 6
  have hq7 := HB3.out.cell 7
  have hf0 := HB3.out.free ⟨pb, 0, none⟩ rfl
  have hf1 := HB3.out.free ⟨pb, 1, none⟩ rfl
  have hf2 := HB3.out.free ⟨pb, 2, none⟩ rfl
  have hf3 := HB3.out.free ⟨pb, 3, none⟩ rfl
  have hf4 := HB3.out.free ⟨pb, 4, none⟩ rfl
  have hf5 := HB3.out.free ⟨pb, 5, none⟩ rfl
  have hf6 := HB3.out.free ⟨pb, 6, none⟩ rfl
  have hf7 := HB3.out.free ⟨pb, 7, none⟩ rfl
  simp only [List.getElem?_cons_zero, List.getElem?_cons_succ] at hq0 hq1 hq2 hq3 hq4 hq5 hq6 hq7
  have HBS := Lib.hid (res_endC rfl HB3.out (.slice v1.A0 d1.fields.length v1.c0) (.slice v1.A1 d1.infos.length v1.c1) (.slice v1.A2 d1.marks.length v1.c2) (.slice v1.A3 d1.states.length v1.c3) (.slice v1.A4 d1.frozen.length v1.c4) (.slice A l1.length c) (.int .i64 N) (.int .i64 M) _ rfl)
  go_wp2_with fail
  generalize (((((((w2.setCell ⟨pb, 0, none⟩ (.slice v1.A0 d1.fields.length v1.c0)).setCell ⟨pb, 1, none⟩ (.slice v1.A1 d1.infos.length v1.c1)).setCell ⟨pb, 2, none⟩ (.slice v1.A2 d1.marks.length v1.c2)).setCell ⟨pb, 3, none⟩ (.slice v1.A3 d1.states.length v1.c3)).setCell ⟨pb, 4, none⟩ (.slice v1.A4 d1.frozen.length v1.c4)).setCell ⟨pb, 5, none⟩ (.slice A l1.length c)).setCell ⟨pb, 6, none⟩ (.int .i64 N)).setCell ⟨pb, 7, none⟩ (.int .i64 M) = wB at *
  have HBB := Lib.hid (show Below w.heap.size w wB from HBW2.out.trans (HBS.out.2.below HBW2.out.size (fun k hk => by have := HPB.out; omega)))
  have HVB := Lib.hid (show ∀ w'', Below wB.heap.size wB w'' → v1.Reads w'' d1 from fun w'' hb => HV2.out w'' (HBB.out.trans (hb.mono HBB.out.size)) (fun k h1 h2 => by
    rw [hb.block k (Nat.lt_of_lt_of_le h2 HBS.out.2.size)]
    exact HBS.out.2.block k h2 (fun e => by have := HSZ.out; omega)))
  have HPB2 := Lib.hid (show Blk wB pb TCA (caseC v1 d1 A c l1.length N M) from HBS.out.1)
  clear HBS HB3 HV2 HBW2 HSZ hq0 hq1 hq2 hq3 hq4 hq5 hq6 hq7
  by_cases hE : playE d1 l1 = 0
  · have HPE := Lib.hid hE
    clear hE
    refine start_ (n := 17) (S := fun _ => True) (ds := []) #[false, false, false, false, false, false, false, false, false, false, false, false, false, false, false, false, false] (by kernel_rfl) rfl rfl trivial (fun _ => ?_)
    have HPC0 := Lib.hid (fun w' (hb : Below wB.drew.heap.size wB.drew w') => pw_cell_below (w := wB.drew) hb (HPB2.out.cell 0))
    have HPC1 := Lib.hid (fun w' (hb : Below wB.drew.heap.size wB.drew w') => pw_cell_below (w := wB.drew) hb (HPB2.out.cell 1))
    have HPC2 := Lib.hid (fun w' (hb : Below wB.drew.heap.size wB.drew w') => pw_cell_below (w := wB.drew) hb (HPB2.out.cell 2))
    have HPC3 := Lib.hid (fun w' (hb : Below wB.drew.heap.size wB.drew w') => pw_cell_below (w := wB.drew) hb (HPB2.out.cell 3))
    have HPC4 := Lib.hid (fun w' (hb : Below wB.drew.heap.size wB.drew w') => pw_cell_below (w := wB.drew) hb (HPB2.out.cell 4))
    have HPC5 := Lib.hid (fun w' (hb : Below wB.drew.heap.size wB.drew w') => pw_cell_below (w := wB.drew) hb (HPB2.out.cell 5))
    have HVQ := Lib.hid (fun w' (hb : Below wB.drew.heap.size wB.drew w') => HVB.out w' ⟨hb.os, hb.tape, hb.output, hb.size, hb.block⟩)
    have HAQ := Lib.hid (fun w' (hb : Below wB.drew.heap.size wB.drew w') => HA.out w' (HBB.out.trans ((show Below wB.heap.size wB w' from ⟨hb.os, hb.tape, hb.output, hb.size, hb.block⟩).mono HBB.out.size)))
    have HBQ := Lib.hid (show ∀ w', Below wB.drew.heap.size wB.drew w' → Below wB.heap.size wB w' from fun _ hb => ⟨hb.os, hb.tape, hb.output, hb.size, hb.block⟩)
    have HSQ := Lib.hid (show wB.drew.heap.size = wB.heap.size from rfl)
    have HLB := Lib.hid (And.intro HLL.out.1 HLL.out.2.1)
    have HPL := Lib.hid (show d1.fields.length < 100000000 ∧ d1.states.length < 100000000 ∧ (∀ r ∈ d1.fields, r.length < 100000000) ∧ l1.length < 100000000 from ⟨HLL.out.2.2.1, HLL.out.2.2.2.1, HLL.out.2.2.2.2.1, by omega⟩)
    generalize wB.drew = wq at *
    refine flow_region (md := .any) (w0 := wq) (B := [0, 1, 3, 0, 8, 31, 63, 127, 255, 255, 255, 255, 0, 4607, 13311, 30719, 65535]) [(0, 16), (1, 17), (2, 18), (3, 19), (4, 20), (5, 21), (6, 22), (7, 15), (8, 23), (9, 24), (10, 25), (11, 26), (12, 4), (13, 3), (15, 5), (16, 6)] [14] (fun i b V w' => match i with
        | 0 => V 0 = .pointer (some ⟨pb, 0, none⟩)
        | 1 => V 1 = (v1).val d1
        | 2 => b 14 = true ∨ ∃ v2 : WV, V 2 = v2.val d1 ∧ v2.Reads w' d1
        | 3 => V 3 = .pointer (some ⟨pb, 5, none⟩)
        | 4 => V 4 = .slice A l1.length c
        | 5 => b 14 = true ∨ ∃ A2 c2, V 5 = .slice A2 l1.length c2 ∧ ActsAt w' A2 l1
        | 6 => PlayV wq.heap.size d1 l1 (V 6) w'
        | 7 => V 7 = V 6
        | 8 => V 8 = tpart 0 (V 6)
        | 9 => V 9 = tpart 1 (V 6)
        | 10 => V 10 = tpart 2 (V 6)
        | 11 => V 11 = tpart 3 (V 6)
        | 12 => ∃ g, V 12 = .pointer (some ⟨g, 0, none⟩) ∧ (b 14 = false → Blk w' g TWD zero5) ∧ wq.heap.size ≤ g
        | 13 => V 13 = tpart 0 (V 6)
        | 15 => V 15 = tpart 2 (V 6)
        | 16 => V 16 = tpart 3 (V 6)
        | 14 => ∃ g, V 12 = .pointer (some ⟨g, 0, none⟩) ∧ Blk w' g TWD (cellsW (V 9)) ∧ wq.heap.size ≤ g
        | _ => True) rfl (by kernel_rfl) (by kernel_rfl) (by kernel_rfl) (by kernel_rfl) (by kernel_rfl) (by kernel_rfl) ?_ ?_ ?_ ?_ ?_
    · intro i hi b b' V V' w' hb h hp
      simp only [List.map_cons, List.map_nil, List.cons_append, List.nil_append, List.mem_cons, List.not_mem_nil, or_false] at hi
      rcases hi with rfl | rfl | rfl | rfl | rfl | rfl | rfl | rfl | rfl | rfl | rfl | rfl | rfl | rfl | rfl | rfl | rfl
      · simp only [← h 0 (.inl rfl)]; exact hp
      · simp only [← h 1 (.inl rfl)]; exact hp
      · simp only [← h 2 (.inl rfl), ← hb 14 (by decide)]; exact hp
      · simp only [← h 3 (.inl rfl)]; exact hp
      · simp only [← h 4 (.inl rfl)]; exact hp
      · simp only [← h 5 (.inl rfl), ← hb 14 (by decide)]; exact hp
      · simp only [← h 6 (.inl rfl)]; exact hp
      · simp only [← h 7 (.inl rfl), ← h 6 (.inr (by kernel_rfl))]; exact hp
      · simp only [← h 8 (.inl rfl), ← h 6 (.inr (by kernel_rfl)), ← h 7 (.inr (by kernel_rfl))]; exact hp
      · simp only [← h 9 (.inl rfl), ← h 6 (.inr (by kernel_rfl)), ← h 7 (.inr (by kernel_rfl))]; exact hp
      · simp only [← h 10 (.inl rfl), ← h 6 (.inr (by kernel_rfl)), ← h 7 (.inr (by kernel_rfl))]; exact hp
      · simp only [← h 11 (.inl rfl), ← h 6 (.inr (by kernel_rfl)), ← h 7 (.inr (by kernel_rfl))]; exact hp
      · simp only [← h 12 (.inl rfl), ← hb 14 (by decide)]; exact hp
      · simp only [← h 13 (.inl rfl), ← h 6 (.inr (by kernel_rfl)), ← h 8 (.inr (by kernel_rfl))]; exact hp
      · simp only [← h 15 (.inl rfl), ← h 6 (.inr (by kernel_rfl)), ← h 10 (.inr (by kernel_rfl))]; exact hp
      · simp only [← h 16 (.inl rfl), ← h 6 (.inr (by kernel_rfl)), ← h 11 (.inr (by kernel_rfl))]; exact hp
      · simp only [← h 14 (.inl rfl), ← h 12 (.inr (by kernel_rfl)), ← h 9 (.inr (by kernel_rfl))]; exact hp
    · intro i hi b V w1 w2 hp hb
      simp only [List.map_cons, List.map_nil, List.cons_append, List.nil_append, List.mem_cons, List.not_mem_nil, or_false] at hi
      rcases hi with rfl | rfl | rfl | rfl | rfl | rfl | rfl | rfl | rfl | rfl | rfl | rfl | rfl | rfl | rfl | rfl | rfl
      · exact hp
      · exact hp
      · exact hp.imp id (fun ⟨v2, h1, h2⟩ => ⟨v2, h1, h2.below hb⟩)
      · exact hp
      · exact hp
      · exact hp.imp id (fun ⟨A2, c2, h1, h2⟩ => ⟨A2, c2, h1, h2.below hb⟩)
      · exact hp.below hb
      · exact hp
      · exact hp
      · exact hp
      · exact hp
      · exact hp
      · exact let ⟨g, h1, h2, h3⟩ := hp; ⟨g, h1, fun h => (Fr.of_below0 (S := fun _ => False) hb).blk (h2 h) id, h3⟩
      · exact hp
      · exact hp
      · exact hp
      · exact let ⟨g, h1, h2, h3⟩ := hp; ⟨g, h1, (Fr.of_below0 (S := fun _ => False) hb).blk h2 id, h3⟩
    · intro e he
      simp only [List.map_cons, List.map_nil, List.cons_append, List.nil_append, List.mem_cons, List.not_mem_nil, or_false] at he
      rcases he with rfl | rfl | rfl | rfl | rfl | rfl | rfl | rfl | rfl | rfl | rfl | rfl | rfl | rfl | rfl | rfl
      · intro b V a w' hoff hd ho hB
        have e1 : a.tmps[1]? = some (.pointer (some ⟨pb, 0, none⟩)) := (ho 1 (by decide)).trans rfl
        refine ⟨_, rfl, rfl, fun K hK => ?_⟩
        clear hd ho hoff
        refine value_ (w1 := w') (v := .pointer (some ⟨pb, 0, none⟩)) rfl rfl ?_ (hK.out _ _ (Below.refl _ _) (setV_self _ _ _))
        go_simp
      · intro b V a w' hoff hd ho hB
        obtain ⟨e16, p16⟩ := hd (0, 16) (by decide) (by kernel_rfl)
        rw [show V 0 = .pointer (some ⟨pb, 0, none⟩) from p16] at e16
        have hc0 := HPC0.out w' hB
        have hc1 := HPC1.out w' hB
        have hc2 := HPC2.out w' hB
        have hc3 := HPC3.out w' hB
        have hc4 := HPC4.out w' hB
        refine ⟨_, rfl, rfl, fun K hK => ?_⟩
        clear hd ho hoff
        refine value_ (w1 := w') (v := (v1).val d1) rfl rfl ?_ (hK.out _ _ (Below.refl _ _) (setV_self _ _ _))
        go_simp
      · intro b V a w' hoff hd ho hB
        have hb_ := hoff 14 (by decide) (by kernel_rfl)
        obtain ⟨e17, p17⟩ := hd (1, 17) (by decide) (by kernel_rfl)
        rw [show V 1 = (v1).val d1 from p17] at e17
        refine ⟨_, rfl, rfl, fun K hK => ?_⟩
        refine goes_ Try.func18 (by kernel_rfl) rfl #[(v1).val d1] (by rfl) rfl rfl (by simp [eval_of e17]) ?_
        refine (law_world w' v1 d1 (HVQ.out w' hB) HLB.out.1 HLB.out.2).mono ?_
        rintro e w2 ⟨v2, rfl, hrd, hbl⟩
        exact ⟨_, rfl, hK.out _ _ hbl (.inr ⟨v2, setV_self _ _ _, hrd⟩)⟩
      · intro b V a w' hoff hd ho hB
        have e1 : a.tmps[1]? = some (.pointer (some ⟨pb, 0, none⟩)) := (ho 1 (by decide)).trans rfl
        refine ⟨_, rfl, rfl, fun K hK => ?_⟩
        clear hd ho hoff
        refine value_ (w1 := w') (v := .pointer (some ⟨pb, 5, none⟩)) rfl rfl ?_ (hK.out _ _ (Below.refl _ _) (setV_self _ _ _))
        go_simp
      · intro b V a w' hoff hd ho hB
        obtain ⟨e19, p19⟩ := hd (3, 19) (by decide) (by kernel_rfl)
        rw [show V 3 = .pointer (some ⟨pb, 5, none⟩) from p19] at e19
        have hc5 := HPC5.out w' hB
        refine ⟨_, rfl, rfl, fun K hK => ?_⟩
        clear hd ho hoff
        refine value_ (w1 := w') (v := .slice A l1.length c) rfl rfl ?_ (hK.out _ _ (Below.refl _ _) (setV_self _ _ _))
        go_simp
      · intro b V a w' hoff hd ho hB
        have hb_ := hoff 14 (by decide) (by kernel_rfl)
        obtain ⟨e20, p20⟩ := hd (4, 20) (by decide) (by kernel_rfl)
        rw [show V 4 = .slice A l1.length c from p20] at e20
        refine ⟨_, rfl, rfl, fun K hK => ?_⟩
        refine goes_ Try.func19 (by kernel_rfl) rfl #[.slice A l1.length c] (by rfl) rfl rfl (by simp [eval_of e20]) ?_
        refine (law_acts' w' _ _ _ l1 rfl (HAQ.out w' hB) (by omega)).mono ?_
        rintro e w2 ⟨v2, rfl, hown, hbl⟩
        obtain ⟨A2, c2, rfl, _, hat⟩ := own_acts hown
        exact ⟨_, rfl, hK.out _ _ hbl (.inr ⟨A2, c2, setV_self _ _ _, hat⟩)⟩
      · intro b V a w' hoff hd ho hB
        have hb_ := hoff 14 (by decide) (by kernel_rfl)
        obtain ⟨e18, p18⟩ := hd (2, 18) (by decide) (by kernel_rfl)
        obtain ⟨e21, p21⟩ := hd (5, 21) (by decide) (by kernel_rfl)
        refine ⟨_, rfl, rfl, fun K hK => ?_⟩
        rcases p21 with h | ⟨A2, c2, hv2, hac⟩
        · rw [hb_] at h; cases h
        rw [hv2] at e21
        rcases p18 with h | ⟨v2, hv3, hrd⟩
        · rw [hb_] at h; cases h
        rw [hv3] at e18
        refine goes_ Try.func17 (by kernel_rfl) rfl #[v2.val d1, .slice A2 l1.length c2] (by rfl) rfl rfl (by simp [eval_of e18, eval_of e21]) ?_
        refine (rec_play w' _ d1 hrd HPL.out.1 HPL.out.2.1 HPL.out.2.2.1 A2 c2 l1 hac HPL.out.2.2.2).mono ?_
        rintro e w2 ⟨hbl, hpp⟩
        rcases hpp with ⟨h, _⟩ | ⟨_, ov, fv, iv, mv, sv, zv, kv, bs, rfl, hout⟩
        · exact absurd HPE.out h
        exact ⟨_, rfl, hK.out _ _ hbl ⟨ov, kv, fv, iv, mv, sv, zv, bs, setV_self _ _ _, play_lower hout hB.size⟩⟩
      · intro b V a w' hoff hd ho hB
        obtain ⟨e22, p22⟩ := hd (6, 22) (by decide) (by kernel_rfl)
        refine ⟨_, rfl, rfl, fun K hK => ?_⟩
        refine value_ (w1 := w') (v := V 6) rfl rfl ?_ (hK.out _ _ (Below.refl _ _) (by show setV V 7 (V 6) 7 = setV V 7 (V 6) 6; rw [setV_self, setV_ne _ _ (by decide)]))
        clear hK hd ho
        obtain ⟨ov, kv, fv, iv, mv, sv, zv, bs, e6, _⟩ := p22
        rw [e6] at e22 ⊢
        go_simp
      · intro b V a w' hoff hd ho hB
        obtain ⟨e15, p15⟩ := hd (7, 15) (by decide) (by kernel_rfl)
        have p_ := (hd (6, 22) (by decide) (by kernel_rfl)).2
        refine ⟨_, rfl, rfl, fun K hK => ?_⟩
        refine value_ (w1 := w') (v := tpart 0 (V 6)) rfl rfl ?_ (hK.out _ _ (Below.refl _ _) (by show setV V 8 _ 8 = tpart 0 (setV V 8 _ 6); rw [setV_self, setV_ne _ _ (by decide)]))
        clear hK hd ho
        obtain ⟨ov, kv, fv, iv, mv, sv, zv, bs, e6, hout⟩ := p_
        rw [p15, e6] at e15
        rw [e6]
        show (execOp a.eval _).run _ _ = .ok (.value ov) w'
        go_simp
      · intro b V a w' hoff hd ho hB
        obtain ⟨e15, p15⟩ := hd (7, 15) (by decide) (by kernel_rfl)
        have p_ := (hd (6, 22) (by decide) (by kernel_rfl)).2
        refine ⟨_, rfl, rfl, fun K hK => ?_⟩
        refine value_ (w1 := w') (v := tpart 1 (V 6)) rfl rfl ?_ (hK.out _ _ (Below.refl _ _) (by show setV V 9 _ 9 = tpart 1 (setV V 9 _ 6); rw [setV_self, setV_ne _ _ (by decide)]))
        clear hK hd ho
        obtain ⟨ov, kv, fv, iv, mv, sv, zv, bs, e6, hout⟩ := p_
        rw [p15, e6] at e15
        rw [e6]
        show (execOp a.eval _).run _ _ = .ok (.value (.agg #[fv, iv, mv, sv, zv])) w'
        go_simp
      · intro b V a w' hoff hd ho hB
        obtain ⟨e15, p15⟩ := hd (7, 15) (by decide) (by kernel_rfl)
        have p_ := (hd (6, 22) (by decide) (by kernel_rfl)).2
        refine ⟨_, rfl, rfl, fun K hK => ?_⟩
        refine value_ (w1 := w') (v := tpart 2 (V 6)) rfl rfl ?_ (hK.out _ _ (Below.refl _ _) (by show setV V 10 _ 10 = tpart 2 (setV V 10 _ 6); rw [setV_self, setV_ne _ _ (by decide)]))
        clear hK hd ho
        obtain ⟨ov, kv, fv, iv, mv, sv, zv, bs, e6, hout⟩ := p_
        rw [p15, e6] at e15
        rw [e6]
        show (execOp a.eval _).run _ _ = .ok (.value kv) w'
        go_simp
      · intro b V a w' hoff hd ho hB
        obtain ⟨e15, p15⟩ := hd (7, 15) (by decide) (by kernel_rfl)
        have p_ := (hd (6, 22) (by decide) (by kernel_rfl)).2
        refine ⟨_, rfl, rfl, fun K hK => ?_⟩
        refine value_ (w1 := w') (v := tpart 3 (V 6)) rfl rfl ?_ (hK.out _ _ (Below.refl _ _) (by show setV V 11 _ 11 = tpart 3 (setV V 11 _ 6); rw [setV_self, setV_ne _ _ (by decide)]))
        clear hK hd ho
        obtain ⟨ov, kv, fv, iv, mv, sv, zv, bs, e6, hout⟩ := p_
        rw [p15, e6] at e15
        rw [e6]
        show (execOp a.eval _).run _ _ = .ok (.value (.int .i64 0)) w'
        go_simp
      · intro b V a w' hoff hd ho hB
        have hb_ := hoff 14 (by decide) (by kernel_rfl)
        refine ⟨_, rfl, rfl, fun K hK => ?_⟩
        refine value_ (w1 := w'.alloc (.cells zero5.toArray TWD)) (v := .pointer (some ⟨w'.heap.size, 0, none⟩)) rfl rfl ?_ (hK.out _ _ ((Below.refl _ _).alloc (Nat.le_refl _) _) ⟨w'.heap.size, setV_self _ _ _, fun _ => Blk.new w' TWD zero5, hB.size⟩)
        clear hd ho hK
        go_simp
      · intro b V a w' hoff hd ho hB
        obtain ⟨e23, p23⟩ := hd (8, 23) (by decide) (by kernel_rfl)
        have p_ := (hd (6, 22) (by decide) (by kernel_rfl)).2
        refine ⟨_, rfl, rfl, fun K hK => ?_⟩
        refine value_ (w1 := w') (v := tpart 0 (V 6)) rfl rfl ?_ (hK.out _ _ (Below.refl _ _) (by show setV V 13 _ 13 = tpart 0 (setV V 13 _ 6); rw [setV_self, setV_ne _ _ (by decide)]))
        clear hK hd ho
        obtain ⟨ov, kv, fv, iv, mv, sv, zv, bs, e6, hout⟩ := p_
        rw [p23, e6] at e23
        change a.tmps[23]? = some ov at e23
        rw [e6]
        show (execOp a.eval _).run _ _ = .ok (.value ov) w'
        obtain ⟨A0, c0, x0, _, _⟩ := owns_slice hout.out
        rw [x0] at e23 ⊢
        go_simp
      · intro b V a w' hoff hd ho hB
        obtain ⟨e25, p25⟩ := hd (10, 25) (by decide) (by kernel_rfl)
        have p_ := (hd (6, 22) (by decide) (by kernel_rfl)).2
        refine ⟨_, rfl, rfl, fun K hK => ?_⟩
        refine value_ (w1 := w') (v := tpart 2 (V 6)) rfl rfl ?_ (hK.out _ _ (Below.refl _ _) (by show setV V 15 _ 15 = tpart 2 (setV V 15 _ 6); rw [setV_self, setV_ne _ _ (by decide)]))
        clear hK hd ho
        obtain ⟨ov, kv, fv, iv, mv, sv, zv, bs, e6, hout⟩ := p_
        rw [p25, e6] at e25
        change a.tmps[25]? = some kv at e25
        rw [e6]
        show (execOp a.eval _).run _ _ = .ok (.value kv) w'
        obtain ⟨A0, c0, x0, _, _⟩ := owns_slice hout.kin
        rw [x0] at e25 ⊢
        go_simp
      · intro b V a w' hoff hd ho hB
        obtain ⟨e26, p26⟩ := hd (11, 26) (by decide) (by kernel_rfl)
        have p_ := (hd (6, 22) (by decide) (by kernel_rfl)).2
        refine ⟨_, rfl, rfl, fun K hK => ?_⟩
        refine value_ (w1 := w') (v := tpart 3 (V 6)) rfl rfl ?_ (hK.out _ _ (Below.refl _ _) (by show setV V 16 _ 16 = tpart 3 (setV V 16 _ 6); rw [setV_self, setV_ne _ _ (by decide)]))
        clear hK hd ho
        obtain ⟨ov, kv, fv, iv, mv, sv, zv, bs, e6, hout⟩ := p_
        rw [p26, e6] at e26
        change a.tmps[26]? = some (.int .i64 0) at e26
        rw [e6]
        show (execOp a.eval _).run _ _ = .ok (.value (.int .i64 0)) w'
        go_simp
    · intro s hs
      simp only [List.map_cons, List.map_nil, List.cons_append, List.nil_append, List.mem_cons, List.not_mem_nil, or_false] at hs
      subst hs
      · intro b V a w' hb_ hd ho hB
        obtain ⟨e4, p4⟩ := hd (12, 4) (by decide) (by kernel_rfl)
        obtain ⟨e24, p24⟩ := hd (9, 24) (by decide) (by kernel_rfl)
        obtain ⟨e22, p22⟩ := hd (6, 22) (by decide) (by kernel_rfl)
        refine ⟨_, rfl, rfl, fun K hK => ?_⟩
        obtain ⟨g, hg, hgz0, hgl⟩ := p4
        have hgz := hgz0 hb_
        rw [hg] at e4
        have p_ := (hd (6, 22) (by decide) (by kernel_rfl)).2
        obtain ⟨ov, kv, fv, iv, mv, sv, zv, bs, e6, hout⟩ := p_
        have hx : V 9 = .agg #[fv, iv, mv, sv, zv] := by rw [p24, e6]; rfl
        rw [hx] at e24
        have hst := run_store_run (P := Try.prog) (w := w') (g := g) (o := 0) TWD (.agg #[fv, iv, mv, sv, zv]) [fv, iv, mv, sv, zv] hgz rfl wsize (by simp [zero5]) (by obtain ⟨A0, c0, x0, _, _⟩ := owns_slice hout.wld.f; obtain ⟨A1, c1, x1, _, _⟩ := owns_slice hout.wld.i; obtain ⟨A2, c2, x2, _, _⟩ := owns_slice hout.wld.m; obtain ⟨A3, c3, x3, _, _⟩ := owns_slice hout.wld.s; obtain ⟨A4, c4, x4, _, _⟩ := owns_slice hout.wld.z; rw [x0, x1, x2, x3, x4]; intro q hq; simp only [List.mem_cons, List.not_mem_nil, or_false] at hq; rcases hq with rfl | rfl | rfl | rfl | rfl <;> rfl)
        obtain ⟨hbz, hfz⟩ := res_end hgz fv iv mv sv zv _ rfl
        refine skip_ (by rfl) rfl (store_exec rfl (eval_of e4) (eval_of e24) hst) (hK.out _ (hB.trans (hfz.below hB.size (fun k hk => by rw [hk]; exact hgl))) ⟨g, hg, by rw [hx]; exact hbz, hgl⟩ (fun i hi hne hbi hp => ?_))
        simp only [List.map_cons, List.map_nil, List.cons_append, List.nil_append, List.mem_cons, List.not_mem_nil, or_false] at hi
        rcases hi with rfl | rfl | rfl | rfl | rfl | rfl | rfl | rfl | rfl | rfl | rfl | rfl | rfl | rfl | rfl | rfl | rfl
        · exact hp
        · exact hp
        · exact .inl (up_self _ _)
        · exact hp
        · exact hp
        · exact .inl (up_self _ _)
        · exact hp.store hgz (by decide) (by decide) (by decide) hfz
        · exact hp
        · exact hp
        · exact hp
        · exact hp
        · exact hp
        · obtain ⟨g2, k1, _, k3⟩ := hp; exact ⟨g2, k1, fun h => absurd ((up_self b _).symm.trans h) (by decide), k3⟩
        · exact hp
        · exact hp
        · exact hp
        · exact absurd rfl hne
    · intro b V a w' hball hfr hB hP
      have hb14 := hball 14 (by decide)
      have P0 := hP 0 (by decide)
      have P1 := hP 1 (by decide)
      have P2 := hP 2 (by decide)
      have P3 := hP 3 (by decide)
      have P4 := hP 4 (by decide)
      have P5 := hP 5 (by decide)
      have P6 := hP 6 (by decide)
      have P7 := hP 7 (by decide)
      have P8 := hP 8 (by decide)
      have P9 := hP 9 (by decide)
      have P10 := hP 10 (by decide)
      have P11 := hP 11 (by decide)
      have P12 := hP 12 (by decide)
      have P13 := hP 13 (by decide)
      have P15 := hP 15 (by decide)
      have P16 := hP 16 (by decide)
      have P14 := hP 14 (by decide)
      clear hP hball
      obtain ⟨g, hg, hgb, hgl⟩ := P14
      obtain ⟨ov, kv, fv, iv, mv, sv, zv, bs, e6, hout⟩ := P6
      have x0 : V 13 = ov := by rw [P13, e6]; rfl
      have x1 : V 9 = .agg #[fv, iv, mv, sv, zv] := by rw [P9, e6]; rfl
      have x2 : V 15 = kv := by rw [P15, e6]; rfl
      have x3 : V 16 = .int .i64 0 := by rw [P16, e6]; rfl
      rw [x1] at hgb
      have HBA2 := Lib.hid (HBQ.out _ hB)
      have HPAR := Lib.hid ((Fr.of_below0 (S := fun _ => False) HBA2.out).blk HPB2.out id)
      have HBG := Lib.hid (show Blk w' g TWD [fv, iv, mv, sv, zv] from hgb)
      have HOU := Lib.hid hout
      subst hfr
      simp only [vrows, List.map_cons, List.map_nil, putSel, if_true, Act.put, List.setIfInBounds_toArray, List.set_cons_zero, List.set_cons_succ]
      rw [hg, x0, x2, x3]
      clear P0 P1 P2 P3 P4 P5 P7 P8 P9 P10 P11 P12 P13 P15 P16 x0 x1 x2 x3 hg hgb hgl hB e6 hout HBQ HSQ HVQ HAQ HPC0 HPC1 HPC2 HPC3 HPC4 HPC5 HPB2 HLB HPL
      obtain ⟨vl, rfl, rfl, rfl, rfl, rfl, hrl⟩ := HOU.out.wld.reads
      have HBXG := Lib.hid (show Blk w' g TWD (vl.cells (runD d1 l1).2) from HBG.out)
      clear HBG
      obtain ⟨Ao, co, rfl, hr1, _⟩ := owns_slice HOU.out.out
      obtain ⟨Ak, ck, rfl, hk1, _⟩ := owns_slice HOU.out.kin
      have HRL5 := Lib.hid hrl
      have HR15 := Lib.hid hr1
      have HK15 := Lib.hid hk1
      clear hrl hr1 hk1 HOU
      have hp0 := HPAR.out.cell 0
      have hp1 := HPAR.out.cell 1
      have hp2 := HPAR.out.cell 2
      have hp3 := HPAR.out.cell 3
      have hp4 := HPAR.out.cell 4
      have hp5 := HPAR.out.cell 5
      simp only [List.getElem?_cons_zero, List.getElem?_cons_succ] at hp0 hp1 hp2 hp3 hp4 hp5
      go_wp2_with fail
      refine (ref_Play w' v1 d1 (HVB.out _ HBA2.out) HLL.out.2.2.1 HLL.out.2.2.2.1 HLL.out.2.2.2.2.1 A c l1 (HA.out _ (HBB.out.trans (HBA2.out.mono HBB.out.size))) (by omega)).mono ?_
      rintro e w2 ⟨hbl, hpp⟩
      rcases hpp with ⟨h, _⟩ | ⟨_, ov2, fv2, iv2, mv2, sv2, zv2, kv2, bs2, rfl, hout2⟩
      · exact absurd HPE.out h
      obtain ⟨ve, rfl, rfl, rfl, rfl, rfl, hre⟩ := hout2.wld.reads
      obtain ⟨Ao2, co2, rfl, hr2, _⟩ := owns_slice hout2.out
      obtain ⟨Ak2, ck2, rfl, hk2, _⟩ := owns_slice hout2.kin
      have HRE5 := Lib.hid hre
      have HR25 := Lib.hid hr2
      have HK25 := Lib.hid hk2
      clear hre hr2 hk2 hout2
      have HBL := Lib.hid hbl
      clear hbl hp0 hp1 hp2 hp3 hp4 hp5
      have hgz := Blk.new w2 TRW zero5
      have hr0 := hgz.cell 0
      have hr1 := hgz.cell 1
      have hr2 := hgz.cell 2
      have hr3 := hgz.cell 3
      have hr4 := hgz.cell 4
      have hf0 := hgz.free ⟨w2.heap.size, 0, none⟩ rfl
      have hf1 := hgz.free ⟨w2.heap.size, 1, none⟩ rfl
      have hf2 := hgz.free ⟨w2.heap.size, 2, none⟩ rfl
      have hf3 := hgz.free ⟨w2.heap.size, 3, none⟩ rfl
      have hf4 := hgz.free ⟨w2.heap.size, 4, none⟩ rfl
      simp only [List.getElem?_cons_zero, List.getElem?_cons_succ] at hr0 hr1 hr2 hr3 hr4
      clear hgz
      go_wp2_with fail
      have HBE6 := Lib.hid (Blk.new w2 TRW (ve.cells (runD d1 l1).2))
      have hal := (Below.refl w2.heap.size w2).alloc (Nat.le_refl _) (.cells (ve.cells (runD d1 l1).2).toArray TRW)
      have HB6 := Lib.hid ((HBA2.out.trans (HBL.out.mono HBA2.out.size)).trans (hal.mono (Nat.le_trans HBA2.out.size HBL.out.size)))
      have HBL6 := Lib.hid ((Fr.of_below0 (S := fun _ => False) hal).blk ((Fr.of_below0 (S := fun _ => False) HBL.out).blk HBXG.out id) id)
      have HRE6 := Lib.hid (HRE5.out.below hal)
      have HRL6 := Lib.hid ((HRL5.out.below HBL.out).below hal)
      have HR16 := Lib.hid ((HR15.out.below HBL.out).below hal)
      have HK16 := Lib.hid ((HK15.out.below HBL.out).below hal)
      have HR26 := Lib.hid (HR25.out.below hal)
      have HK26 := Lib.hid (HK25.out.below hal)
      clear HRE5 HRL5 HR15 HK15 HR25 HK25
      clear hal HBXG HBL HBA2 HPAR hr0 hr1 hr2 hr3 hr4 hf0 hf1 hf2 hf3 hf4
      obtain ⟨g2, hg2⟩ : ∃ x, x = w2.heap.size := ⟨_, rfl⟩
      rw [← hg2] at HBE6 ⊢
      generalize w2.alloc (.cells (ve.cells (runD d1 l1).2).toArray TRW) = wf at *
      clear hg2
      obtain ⟨B0, hB0⟩ : ∃ B, B = wf.drew.heap.size := ⟨_, rfl⟩
      have HBQ := Lib.hid (show ∀ w'', Below B0 wf.drew w'' → Below wf.heap.size wf w'' from fun _ hb => ⟨hb.os, hb.tape, hb.output, hb.size, by rw [hB0] at hb; exact hb.block⟩)
      have HBS := Lib.hid (show ∀ w'', Below B0 wf.drew w'' → B0 ≤ w''.heap.size from fun _ hb => by rw [hB0]; exact hb.size)
      clear hB0
      have HRE := Lib.hid (fun w'' (hb : Below B0 wf.drew w'') => HRE6.out.below (HBQ.out w'' hb))
      have HRL := Lib.hid (fun w'' (hb : Below B0 wf.drew w'') => HRL6.out.below (HBQ.out w'' hb))
      have HCL0 := Lib.hid (fun w'' (hb : Below B0 wf.drew w'') => pw_cell_below (w := wf) (HBQ.out w'' hb) (HBL6.out.cell 0))
      have HCL1 := Lib.hid (fun w'' (hb : Below B0 wf.drew w'') => pw_cell_below (w := wf) (HBQ.out w'' hb) (HBL6.out.cell 1))
      have HCL2 := Lib.hid (fun w'' (hb : Below B0 wf.drew w'') => pw_cell_below (w := wf) (HBQ.out w'' hb) (HBL6.out.cell 2))
      have HCL3 := Lib.hid (fun w'' (hb : Below B0 wf.drew w'') => pw_cell_below (w := wf) (HBQ.out w'' hb) (HBL6.out.cell 3))
      have HCL4 := Lib.hid (fun w'' (hb : Below B0 wf.drew w'') => pw_cell_below (w := wf) (HBQ.out w'' hb) (HBL6.out.cell 4))
      have HCE0 := Lib.hid (fun w'' (hb : Below B0 wf.drew w'') => pw_cell_below (w := wf) (HBQ.out w'' hb) (HBE6.out.cell 0))
      have HCE1 := Lib.hid (fun w'' (hb : Below B0 wf.drew w'') => pw_cell_below (w := wf) (HBQ.out w'' hb) (HBE6.out.cell 1))
      have HCE2 := Lib.hid (fun w'' (hb : Below B0 wf.drew w'') => pw_cell_below (w := wf) (HBQ.out w'' hb) (HBE6.out.cell 2))
      have HCE3 := Lib.hid (fun w'' (hb : Below B0 wf.drew w'') => pw_cell_below (w := wf) (HBQ.out w'' hb) (HBE6.out.cell 3))
      have HCE4 := Lib.hid (fun w'' (hb : Below B0 wf.drew w'') => pw_cell_below (w := wf) (HBQ.out w'' hb) (HBE6.out.cell 4))
      have HR1 := Lib.hid (fun w'' (hb : Below B0 wf.drew w'') => HR16.out.below (HBQ.out w'' hb))
      have HR2 := Lib.hid (fun w'' (hb : Below B0 wf.drew w'') => HR26.out.below (HBQ.out w'' hb))
      have HK1 := Lib.hid (fun w'' (hb : Below B0 wf.drew w'') => HK16.out.below (HBQ.out w'' hb))
      have HK2 := Lib.hid (fun w'' (hb : Below B0 wf.drew w'') => HK26.out.below (HBQ.out w'' hb))
      have HFE := Lib.hid (show (runD d1 l1).2.Form from (runD_form (Good.of HPE.out).Form l1 (Good.of HPE.out).fits).1)
      have HFIN := Lib.hid (show ∀ w'', Below B0 wf.drew w'' → Below w.heap.size w w'' from fun w'' hb => HBB.out.trans ((HB6.out.trans ((HBQ.out w'' hb).mono HB6.out.size)).mono HBB.out.size))
      clear HB6 HRE6 HRL6 HBL6 HBE6 HR16 HR26 HK16 HK26 HBB HPB HLL HVB HA HBQ HPE
      refine start_ (n := 20) (S := fun w' => Below B0 wf.drew w') (ds := []) #[false, false, false, false, false, false, false, false, false, false, false, false, false, false, false, false, false, false, false, false] (by kernel_rfl) rfl rfl (Below.refl _ _) (fun hHeld => ?_)
      have S1 : Below B0 wf.drew wf.drew := Below.refl _ _
      generalize wf.drew = wR at *
      refine pure_ (i := 0) (N := some 37) (v := ?_) (a' := ?_) #[true, false, false, false, false, false, false, false, false, false, false, false, false, false, false, false, false, false, false, false] rfl rfl (by kernel_rfl) (fun _ _ _ h => h) (Or.inl ⟨by rfl, ?_⟩) ?_ ?_
      rotate_left
      · intro w'
        go_simp
        with_reducible rfl
      rotate_left
      · simp only [Act.put, List.setIfInBounds_toArray, List.set_cons_zero, List.set_cons_succ]
        rfl
      refine pure_ (i := 1) (N := some 38) (v := ?_) (a' := ?_) #[true, true, false, false, false, false, false, false, false, false, false, false, false, false, false, false, false, false, false, false] rfl rfl (by kernel_rfl) (fun _ _ _ h => h) (Or.inl ⟨by rfl, ?_⟩) ?_ ?_
      rotate_left
      · intro w'
        go_simp
        with_reducible rfl
      rotate_left
      · simp only [Act.put, List.setIfInBounds_toArray, List.set_cons_zero, List.set_cons_succ]
        rfl
      refine pure_ (i := 2) (N := some 39) (v := ?_) (a' := ?_) #[true, true, true, false, false, false, false, false, false, false, false, false, false, false, false, false, false, false, false, false] rfl rfl (by kernel_rfl) (fun _ _ _ h => h) (Or.inl ⟨by rfl, ?_⟩) ?_ ?_
      rotate_left
      · intro w'
        go_simp
        with_reducible rfl
      rotate_left
      · simp only [Act.put, List.setIfInBounds_toArray, List.set_cons_zero, List.set_cons_succ]
        rfl
      refine pure_ (i := 3) (N := some 40) (v := ?_) (a' := ?_) #[true, true, true, true, false, false, false, false, false, false, false, false, false, false, false, false, false, false, false, false] rfl rfl (by kernel_rfl) (fun _ _ _ h => h) (Or.inl ⟨by rfl, ?_⟩) ?_ ?_
      rotate_left
      · intro w'
        go_simp
        with_reducible rfl
      rotate_left
      · simp only [Act.put, List.setIfInBounds_toArray, List.set_cons_zero, List.set_cons_succ]
        rfl
      refine pure_ (i := 4) (N := some 41) (v := ?_) (a' := ?_) #[true, true, true, true, true, false, false, false, false, false, false, false, false, false, false, false, false, false, false, false] rfl rfl (by kernel_rfl) (fun _ _ _ h => h) (Or.inl ⟨by rfl, ?_⟩) ?_ ?_
      rotate_left
      · intro w'
        go_simp
        with_reducible rfl
      rotate_left
      · simp only [Act.put, List.setIfInBounds_toArray, List.set_cons_zero, List.set_cons_succ]
        rfl
      refine pure_ (i := 5) (N := some 42) (v := ?_) (a' := ?_) #[true, true, true, true, true, true, false, false, false, false, false, false, false, false, false, false, false, false, false, false] rfl rfl (by kernel_rfl) (fun _ _ _ h => h) (Or.inl ⟨by rfl, ?_⟩) ?_ ?_
      rotate_left
      · intro w'
        go_simp
        with_reducible rfl
      rotate_left
      · simp only [Act.put, List.setIfInBounds_toArray, List.set_cons_zero, List.set_cons_succ]
        rfl
      refine one_ (i := 6) (N := some 43) #[true, true, true, true, true, true, true, false, false, false, false, false, false, false, false, false, false, false, false, false] rfl rfl (by kernel_rfl) (by decide) (fun K hK => ?_)
      refine goes_ Try.func21 (by kernel_rfl) rfl #[.slice Ao l1.length co, .slice Ao2 l1.length co2] (by rfl) rfl rfl (by simp [Act.eval]) ?_
      refine (same_ints' _ _ l1.length (runD d1 l1).1 _ _ _ (by rw [runD_length]) (by omega) (HR1.out _ S1) (HR2.out _ S1)).mono ?_
      rintro e w9 ⟨rfl, m9, rfl⟩
      refine ⟨_, rfl, hK.out _ _ (pw_below_drewN S1 m9) (fun hHeld => ?_)⟩
      simp only [Act.put, List.setIfInBounds_toArray, List.set_cons_zero, List.set_cons_succ]
      have S2 := pw_below_drewN S1 m9
      clear hK S1
      generalize wR.drewN m9 = wn2 at *
      refine pure_ (i := 7) (N := some 44) (v := ?_) (a' := ?_) #[true, true, true, true, true, true, true, true, false, false, false, false, false, false, false, false, false, false, false, false] rfl rfl (by kernel_rfl) (fun _ _ _ h => h) (Or.inl ⟨by rfl, ?_⟩) ?_ ?_
      rotate_left
      · intro w'
        go_simp
        with_reducible rfl
      rotate_left
      · simp only [Act.put, List.setIfInBounds_toArray, List.set_cons_zero, List.set_cons_succ]
        rfl
      refine pure_ (i := 8) (N := some 45) (v := ?_) (a' := ?_) #[true, true, true, true, true, true, true, true, true, false, false, false, false, false, false, false, false, false, false, false] rfl rfl (by kernel_rfl) (fun _ _ _ h => h) (Or.inl ⟨by rfl, ?_⟩) ?_ ?_
      rotate_left
      · intro w'
        go_simp
        with_reducible rfl
      rotate_left
      · simp only [Act.put, List.setIfInBounds_toArray, List.set_cons_zero, List.set_cons_succ]
        rfl
      refine pure_ (i := 9) (N := some 46) (v := ?_) (a' := ?_) #[true, true, true, true, true, true, true, true, true, true, false, false, false, false, false, false, false, false, false, false] rfl rfl (by kernel_rfl) (fun _ _ _ h => h) (Or.inl ⟨by rfl, ?_⟩) ?_ ?_
      rotate_left
      · intro w'
        go_simp
        with_reducible rfl
      rotate_left
      · simp only [Act.put, List.setIfInBounds_toArray, List.set_cons_zero, List.set_cons_succ]
        rfl
      refine pure_ (i := 10) (N := some 47) (v := ?_) (a' := ?_) #[true, true, true, true, true, true, true, true, true, true, true, false, false, false, false, false, false, false, false, false] rfl rfl (by kernel_rfl) (fun _ _ _ h => h) (Or.inl ⟨by rfl, ?_⟩) ?_ ?_
      rotate_left
      · intro w'
        go_simp
        with_reducible rfl
      rotate_left
      · simp only [Act.put, List.setIfInBounds_toArray, List.set_cons_zero, List.set_cons_succ]
        rfl
      refine one_ (i := 11) (N := some 48) #[true, true, true, true, true, true, true, true, true, true, true, true, false, false, false, false, false, false, false, false] rfl rfl (by kernel_rfl) (by decide) (fun K hK => ?_)
      refine goes_ Try.func21 (by kernel_rfl) rfl #[.slice Ak l1.length ck, .slice Ak2 l1.length ck2] (by rfl) rfl rfl (by simp [Act.eval]) ?_
      refine (same_ints' _ _ l1.length (kinds l1) _ _ _ (by simp [kinds]) (by omega) (HK1.out _ S2) (HK2.out _ S2)).mono ?_
      rintro e w9 ⟨rfl, m9, rfl⟩
      refine ⟨_, rfl, hK.out _ _ (pw_below_drewN S2 m9) (fun hHeld => ?_)⟩
      simp only [Act.put, List.setIfInBounds_toArray, List.set_cons_zero, List.set_cons_succ]
      have S3 := pw_below_drewN S2 m9
      clear hK S2
      generalize wn2.drewN m9 = wn3 at *
      refine pure_ (i := 12) (N := some 49) (v := ?_) (a' := ?_) #[true, true, true, true, true, true, true, true, true, true, true, true, true, false, false, false, false, false, false, false] rfl rfl (by kernel_rfl) (fun _ _ _ h => h) (Or.inl ⟨by rfl, ?_⟩) ?_ ?_
      rotate_left
      · intro w'
        go_simp
        with_reducible rfl
      rotate_left
      · simp only [Act.put, List.setIfInBounds_toArray, List.set_cons_zero, List.set_cons_succ]
        rfl
      refine pure_ (i := 13) (N := some 50) (v := ?_) (a' := ?_) #[true, true, true, true, true, true, true, true, true, true, true, true, true, true, false, false, false, false, false, false] rfl rfl (by kernel_rfl) (fun _ _ _ h => h) (Or.inl ⟨by rfl, ?_⟩) ?_ ?_
      rotate_left
      · intro w'
        go_simp
        with_reducible rfl
      rotate_left
      · simp only [Act.put, List.setIfInBounds_toArray, List.set_cons_zero, List.set_cons_succ]
        rfl
      refine take_ (i := 14) (N := some 51) (v := vl.val (runD d1 l1).2) (a' := ?_) #[true, true, true, true, true, true, true, true, true, true, true, true, true, true, true, false, false, false, false, false] rfl rfl (by kernel_rfl) (fun _ _ _ h => h) (Or.inl ⟨by rfl, ?_⟩) hHeld ?_ ?_
      · rintro w' s0
        have hc0 := HCL0.out w' s0
        have hc1 := HCL1.out w' s0
        have hc2 := HCL2.out w' s0
        have hc3 := HCL3.out w' s0
        have hc4 := HCL4.out w' s0
        go_simp
      rotate_left
      · simp only [Act.put, List.setIfInBounds_toArray, List.set_cons_zero, List.set_cons_succ]
        rfl
      refine take_ (i := 16) (N := some 53) (v := ve.val (runD d1 l1).2) (a' := ?_) #[true, true, true, true, true, true, true, true, true, true, true, true, true, true, true, false, true, false, false, false] rfl rfl (by kernel_rfl) (fun _ _ _ h => h) (Or.inl ⟨by rfl, ?_⟩) hHeld ?_ ?_
      · rintro w' s0
        have hc0 := HCE0.out w' s0
        have hc1 := HCE1.out w' s0
        have hc2 := HCE2.out w' s0
        have hc3 := HCE3.out w' s0
        have hc4 := HCE4.out w' s0
        go_simp
      rotate_left
      · simp only [Act.put, List.setIfInBounds_toArray, List.set_cons_zero, List.set_cons_succ]
        rfl
      refine one_ (i := 15) (N := some 52) #[true, true, true, true, true, true, true, true, true, true, true, true, true, true, true, true, true, false, false, false] rfl rfl (by kernel_rfl) (by decide) (fun K hK => ?_)
      refine goes_ Try.func23 (by kernel_rfl) rfl #[vl.val (runD d1 l1).2] (by rfl) rfl rfl (by simp [Act.eval]) ?_
      refine (law_ours wn3 vl (runD d1 l1).2).mono ?_
      rintro e wn4 ⟨rfl, hbl⟩
      refine ⟨_, rfl, hK.out _ _ (S3.trans (hbl.mono (HBS.out _ S3))) (fun hHeld => ?_)⟩
      simp only [Act.put, List.setIfInBounds_toArray, List.set_cons_zero, List.set_cons_succ]
      have S4 := S3.trans (hbl.mono (HBS.out _ S3))
      clear hK hbl S3
      refine one_ (i := 17) (N := some 54) #[true, true, true, true, true, true, true, true, true, true, true, true, true, true, true, true, true, true, false, false] rfl rfl (by kernel_rfl) (by decide) (fun K hK => ?_)
      refine goes_ Try.func22 (by kernel_rfl) rfl #[vl.val (runD d1 l1).2, ve.val (runD d1 l1).2] (by rfl) rfl rfl (by simp [Act.eval]) ?_
      refine (ref_Same wn4 vl ve (runD d1 l1).2 (HRL.out _ S4) (HRE.out _ S4) (by have := HFE.out.l0; omega) (by have := HFE.out.e1; have := HFE.out.l0; omega) (by have := HFE.out.e2; have := HFE.out.l0; omega) (by have := HFE.out.l3; omega) (by have := HFE.out.e4; have := HFE.out.l3; omega) (fun r hr => by have := HFE.out.l1 r hr; omega)).mono ?_
      rintro e wn5 ⟨rfl, hbl⟩
      refine ⟨_, rfl, hK.out _ _ (S4.trans (hbl.mono (HBS.out _ S4))) (fun hHeld => ?_)⟩
      simp only [Act.put, List.setIfInBounds_toArray, List.set_cons_zero, List.set_cons_succ]
      have S5 := S4.trans (hbl.mono (HBS.out _ S4))
      clear hK hbl S4
      refine pure_ (i := 18) (N := some 55) (v := ?_) (a' := ?_) #[true, true, true, true, true, true, true, true, true, true, true, true, true, true, true, true, true, true, true, false] rfl rfl (by kernel_rfl) (fun _ _ _ h => h) (Or.inl ⟨by rfl, ?_⟩) ?_ ?_
      rotate_left
      · intro w'
        go_simp
        with_reducible rfl
      rotate_left
      · simp only [Act.put, List.setIfInBounds_toArray, List.set_cons_zero, List.set_cons_succ]
        rfl
      refine pure_ (i := 19) (N := some 2) (v := ?_) (a' := ?_) #[true, true, true, true, true, true, true, true, true, true, true, true, true, true, true, true, true, true, true, true] rfl rfl (by kernel_rfl) (fun _ _ _ h => h) (Or.inl ⟨by rfl, ?_⟩) ?_ ?_
      rotate_left
      · intro w'
        go_simp
        with_reducible rfl
      rotate_left
      · simp only [Act.put, List.setIfInBounds_toArray, List.set_cons_zero, List.set_cons_succ]
        rfl
      refine done_ (by kernel_rfl) ?_
      have HF := Lib.hid (HFIN.out _ S5)
      clear S5 HFIN HBS HRE HRL HR1 HR2 HK1 HK2 HFE HCE0 HCL0 HCE1 HCL1 HCE2 HCL2 HCE3 HCL3 HCE4 HCL4
      go_wp2
      exact HQ'.out _ _ ⟨rfl, HF.out⟩
  · have HPE := Lib.hid hE
    have hE2 : (playE d1 l1 == 0) = false := by simpa using hE
    clear hE
    refine start_ (n := 17) (S := fun _ => True) (ds := []) #[false, false, false, false, false, false, false, false, false, false, false, false, false, false, false, false, false] (by kernel_rfl) rfl rfl trivial (fun _ => ?_)
    have HPC0 := Lib.hid (fun w' (hb : Below wB.drew.heap.size wB.drew w') => pw_cell_below (w := wB.drew) hb (HPB2.out.cell 0))
    have HPC1 := Lib.hid (fun w' (hb : Below wB.drew.heap.size wB.drew w') => pw_cell_below (w := wB.drew) hb (HPB2.out.cell 1))
    have HPC2 := Lib.hid (fun w' (hb : Below wB.drew.heap.size wB.drew w') => pw_cell_below (w := wB.drew) hb (HPB2.out.cell 2))
    have HPC3 := Lib.hid (fun w' (hb : Below wB.drew.heap.size wB.drew w') => pw_cell_below (w := wB.drew) hb (HPB2.out.cell 3))
    have HPC4 := Lib.hid (fun w' (hb : Below wB.drew.heap.size wB.drew w') => pw_cell_below (w := wB.drew) hb (HPB2.out.cell 4))
    have HPC5 := Lib.hid (fun w' (hb : Below wB.drew.heap.size wB.drew w') => pw_cell_below (w := wB.drew) hb (HPB2.out.cell 5))
    have HVQ := Lib.hid (fun w' (hb : Below wB.drew.heap.size wB.drew w') => HVB.out w' ⟨hb.os, hb.tape, hb.output, hb.size, hb.block⟩)
    have HAQ := Lib.hid (fun w' (hb : Below wB.drew.heap.size wB.drew w') => HA.out w' (HBB.out.trans ((show Below wB.heap.size wB w' from ⟨hb.os, hb.tape, hb.output, hb.size, hb.block⟩).mono HBB.out.size)))
    have HBQ := Lib.hid (show ∀ w', Below wB.drew.heap.size wB.drew w' → Below wB.heap.size wB w' from fun _ hb => ⟨hb.os, hb.tape, hb.output, hb.size, hb.block⟩)
    have HSQ := Lib.hid (show wB.drew.heap.size = wB.heap.size from rfl)
    have HLB := Lib.hid (And.intro HLL.out.1 HLL.out.2.1)
    have HPL := Lib.hid (show d1.fields.length < 100000000 ∧ d1.states.length < 100000000 ∧ (∀ r ∈ d1.fields, r.length < 100000000) ∧ l1.length < 100000000 from ⟨HLL.out.2.2.1, HLL.out.2.2.2.1, HLL.out.2.2.2.2.1, by omega⟩)
    generalize wB.drew = wq at *
    refine flow_region (md := .any) (w0 := wq) (B := [0, 1, 3, 0, 8, 31, 63, 127, 255, 255, 255, 255, 0, 4607, 13311, 30719, 65535]) [(0, 16), (1, 17), (2, 18), (3, 19), (4, 20), (5, 21), (6, 22), (7, 15), (8, 23), (9, 24), (10, 25), (11, 26), (12, 4), (13, 3), (15, 5), (16, 6)] [14] (fun i b V w' => match i with
        | 0 => V 0 = .pointer (some ⟨pb, 0, none⟩)
        | 1 => V 1 = (v1).val d1
        | 2 => b 14 = true ∨ ∃ v2 : WV, V 2 = v2.val d1 ∧ v2.Reads w' d1
        | 3 => V 3 = .pointer (some ⟨pb, 5, none⟩)
        | 4 => V 4 = .slice A l1.length c
        | 5 => b 14 = true ∨ ∃ A2 c2, V 5 = .slice A2 l1.length c2 ∧ ActsAt w' A2 l1
        | 6 => V 6 = refV (playE d1 l1)
        | 7 => V 7 = V 6
        | 8 => V 8 = tpart 0 (V 6)
        | 9 => V 9 = tpart 1 (V 6)
        | 10 => V 10 = tpart 2 (V 6)
        | 11 => V 11 = tpart 3 (V 6)
        | 12 => ∃ g, V 12 = .pointer (some ⟨g, 0, none⟩) ∧ (b 14 = false → Blk w' g TWD zero5) ∧ wq.heap.size ≤ g
        | 13 => V 13 = tpart 0 (V 6)
        | 15 => V 15 = tpart 2 (V 6)
        | 16 => V 16 = tpart 3 (V 6)
        | 14 => ∃ g, V 12 = .pointer (some ⟨g, 0, none⟩) ∧ Blk w' g TWD (cellsW (V 9)) ∧ wq.heap.size ≤ g
        | _ => True) rfl (by kernel_rfl) (by kernel_rfl) (by kernel_rfl) (by kernel_rfl) (by kernel_rfl) (by kernel_rfl) ?_ ?_ ?_ ?_ ?_
    · intro i hi b b' V V' w' hb h hp
      simp only [List.map_cons, List.map_nil, List.cons_append, List.nil_append, List.mem_cons, List.not_mem_nil, or_false] at hi
      rcases hi with rfl | rfl | rfl | rfl | rfl | rfl | rfl | rfl | rfl | rfl | rfl | rfl | rfl | rfl | rfl | rfl | rfl
      · simp only [← h 0 (.inl rfl)]; exact hp
      · simp only [← h 1 (.inl rfl)]; exact hp
      · simp only [← h 2 (.inl rfl), ← hb 14 (by decide)]; exact hp
      · simp only [← h 3 (.inl rfl)]; exact hp
      · simp only [← h 4 (.inl rfl)]; exact hp
      · simp only [← h 5 (.inl rfl), ← hb 14 (by decide)]; exact hp
      · simp only [← h 6 (.inl rfl)]; exact hp
      · simp only [← h 7 (.inl rfl), ← h 6 (.inr (by kernel_rfl))]; exact hp
      · simp only [← h 8 (.inl rfl), ← h 6 (.inr (by kernel_rfl)), ← h 7 (.inr (by kernel_rfl))]; exact hp
      · simp only [← h 9 (.inl rfl), ← h 6 (.inr (by kernel_rfl)), ← h 7 (.inr (by kernel_rfl))]; exact hp
      · simp only [← h 10 (.inl rfl), ← h 6 (.inr (by kernel_rfl)), ← h 7 (.inr (by kernel_rfl))]; exact hp
      · simp only [← h 11 (.inl rfl), ← h 6 (.inr (by kernel_rfl)), ← h 7 (.inr (by kernel_rfl))]; exact hp
      · simp only [← h 12 (.inl rfl), ← hb 14 (by decide)]; exact hp
      · simp only [← h 13 (.inl rfl), ← h 6 (.inr (by kernel_rfl)), ← h 8 (.inr (by kernel_rfl))]; exact hp
      · simp only [← h 15 (.inl rfl), ← h 6 (.inr (by kernel_rfl)), ← h 10 (.inr (by kernel_rfl))]; exact hp
      · simp only [← h 16 (.inl rfl), ← h 6 (.inr (by kernel_rfl)), ← h 11 (.inr (by kernel_rfl))]; exact hp
      · simp only [← h 14 (.inl rfl), ← h 12 (.inr (by kernel_rfl)), ← h 9 (.inr (by kernel_rfl))]; exact hp
    · intro i hi b V w1 w2 hp hb
      simp only [List.map_cons, List.map_nil, List.cons_append, List.nil_append, List.mem_cons, List.not_mem_nil, or_false] at hi
      rcases hi with rfl | rfl | rfl | rfl | rfl | rfl | rfl | rfl | rfl | rfl | rfl | rfl | rfl | rfl | rfl | rfl | rfl
      · exact hp
      · exact hp
      · exact hp.imp id (fun ⟨v2, h1, h2⟩ => ⟨v2, h1, h2.below hb⟩)
      · exact hp
      · exact hp
      · exact hp.imp id (fun ⟨A2, c2, h1, h2⟩ => ⟨A2, c2, h1, h2.below hb⟩)
      · exact hp
      · exact hp
      · exact hp
      · exact hp
      · exact hp
      · exact hp
      · exact let ⟨g, h1, h2, h3⟩ := hp; ⟨g, h1, fun h => (Fr.of_below0 (S := fun _ => False) hb).blk (h2 h) id, h3⟩
      · exact hp
      · exact hp
      · exact hp
      · exact let ⟨g, h1, h2, h3⟩ := hp; ⟨g, h1, (Fr.of_below0 (S := fun _ => False) hb).blk h2 id, h3⟩
    · intro e he
      simp only [List.map_cons, List.map_nil, List.cons_append, List.nil_append, List.mem_cons, List.not_mem_nil, or_false] at he
      rcases he with rfl | rfl | rfl | rfl | rfl | rfl | rfl | rfl | rfl | rfl | rfl | rfl | rfl | rfl | rfl | rfl
      · intro b V a w' hoff hd ho hB
        have e1 : a.tmps[1]? = some (.pointer (some ⟨pb, 0, none⟩)) := (ho 1 (by decide)).trans rfl
        refine ⟨_, rfl, rfl, fun K hK => ?_⟩
        clear hd ho hoff
        refine value_ (w1 := w') (v := .pointer (some ⟨pb, 0, none⟩)) rfl rfl ?_ (hK.out _ _ (Below.refl _ _) (setV_self _ _ _))
        go_simp
      · intro b V a w' hoff hd ho hB
        obtain ⟨e16, p16⟩ := hd (0, 16) (by decide) (by kernel_rfl)
        rw [show V 0 = .pointer (some ⟨pb, 0, none⟩) from p16] at e16
        have hc0 := HPC0.out w' hB
        have hc1 := HPC1.out w' hB
        have hc2 := HPC2.out w' hB
        have hc3 := HPC3.out w' hB
        have hc4 := HPC4.out w' hB
        refine ⟨_, rfl, rfl, fun K hK => ?_⟩
        clear hd ho hoff
        refine value_ (w1 := w') (v := (v1).val d1) rfl rfl ?_ (hK.out _ _ (Below.refl _ _) (setV_self _ _ _))
        go_simp
      · intro b V a w' hoff hd ho hB
        have hb_ := hoff 14 (by decide) (by kernel_rfl)
        obtain ⟨e17, p17⟩ := hd (1, 17) (by decide) (by kernel_rfl)
        rw [show V 1 = (v1).val d1 from p17] at e17
        refine ⟨_, rfl, rfl, fun K hK => ?_⟩
        refine goes_ Try.func18 (by kernel_rfl) rfl #[(v1).val d1] (by rfl) rfl rfl (by simp [eval_of e17]) ?_
        refine (law_world w' v1 d1 (HVQ.out w' hB) HLB.out.1 HLB.out.2).mono ?_
        rintro e w2 ⟨v2, rfl, hrd, hbl⟩
        exact ⟨_, rfl, hK.out _ _ hbl (.inr ⟨v2, setV_self _ _ _, hrd⟩)⟩
      · intro b V a w' hoff hd ho hB
        have e1 : a.tmps[1]? = some (.pointer (some ⟨pb, 0, none⟩)) := (ho 1 (by decide)).trans rfl
        refine ⟨_, rfl, rfl, fun K hK => ?_⟩
        clear hd ho hoff
        refine value_ (w1 := w') (v := .pointer (some ⟨pb, 5, none⟩)) rfl rfl ?_ (hK.out _ _ (Below.refl _ _) (setV_self _ _ _))
        go_simp
      · intro b V a w' hoff hd ho hB
        obtain ⟨e19, p19⟩ := hd (3, 19) (by decide) (by kernel_rfl)
        rw [show V 3 = .pointer (some ⟨pb, 5, none⟩) from p19] at e19
        have hc5 := HPC5.out w' hB
        refine ⟨_, rfl, rfl, fun K hK => ?_⟩
        clear hd ho hoff
        refine value_ (w1 := w') (v := .slice A l1.length c) rfl rfl ?_ (hK.out _ _ (Below.refl _ _) (setV_self _ _ _))
        go_simp
      · intro b V a w' hoff hd ho hB
        have hb_ := hoff 14 (by decide) (by kernel_rfl)
        obtain ⟨e20, p20⟩ := hd (4, 20) (by decide) (by kernel_rfl)
        rw [show V 4 = .slice A l1.length c from p20] at e20
        refine ⟨_, rfl, rfl, fun K hK => ?_⟩
        refine goes_ Try.func19 (by kernel_rfl) rfl #[.slice A l1.length c] (by rfl) rfl rfl (by simp [eval_of e20]) ?_
        refine (law_acts' w' _ _ _ l1 rfl (HAQ.out w' hB) (by omega)).mono ?_
        rintro e w2 ⟨v2, rfl, hown, hbl⟩
        obtain ⟨A2, c2, rfl, _, hat⟩ := own_acts hown
        exact ⟨_, rfl, hK.out _ _ hbl (.inr ⟨A2, c2, setV_self _ _ _, hat⟩)⟩
      · intro b V a w' hoff hd ho hB
        have hb_ := hoff 14 (by decide) (by kernel_rfl)
        obtain ⟨e18, p18⟩ := hd (2, 18) (by decide) (by kernel_rfl)
        obtain ⟨e21, p21⟩ := hd (5, 21) (by decide) (by kernel_rfl)
        refine ⟨_, rfl, rfl, fun K hK => ?_⟩
        rcases p21 with h | ⟨A2, c2, hv2, hac⟩
        · rw [hb_] at h; cases h
        rw [hv2] at e21
        rcases p18 with h | ⟨v2, hv3, hrd⟩
        · rw [hb_] at h; cases h
        rw [hv3] at e18
        refine goes_ Try.func17 (by kernel_rfl) rfl #[v2.val d1, .slice A2 l1.length c2] (by rfl) rfl rfl (by simp [eval_of e18, eval_of e21]) ?_
        refine (rec_play w' _ d1 hrd HPL.out.1 HPL.out.2.1 HPL.out.2.2.1 A2 c2 l1 hac HPL.out.2.2.2).mono ?_
        rintro e w2 ⟨hbl, hpp⟩
        rcases hpp with ⟨_, rfl⟩ | ⟨h, _⟩
        · exact ⟨_, rfl, hK.out _ _ hbl (setV_self _ _ _)⟩
        · exact absurd h HPE.out
      · intro b V a w' hoff hd ho hB
        obtain ⟨e22, p22⟩ := hd (6, 22) (by decide) (by kernel_rfl)
        refine ⟨_, rfl, rfl, fun K hK => ?_⟩
        refine value_ (w1 := w') (v := V 6) rfl rfl ?_ (hK.out _ _ (Below.refl _ _) (by show setV V 7 (V 6) 7 = setV V 7 (V 6) 6; rw [setV_self, setV_ne _ _ (by decide)]))
        clear hK hd ho
        rw [p22] at e22 ⊢
        go_simp
      · intro b V a w' hoff hd ho hB
        obtain ⟨e15, p15⟩ := hd (7, 15) (by decide) (by kernel_rfl)
        have p_ := (hd (6, 22) (by decide) (by kernel_rfl)).2
        refine ⟨_, rfl, rfl, fun K hK => ?_⟩
        refine value_ (w1 := w') (v := tpart 0 (V 6)) rfl rfl ?_ (hK.out _ _ (Below.refl _ _) (by show setV V 8 _ 8 = tpart 0 (setV V 8 _ 6); rw [setV_self, setV_ne _ _ (by decide)]))
        clear hK hd ho
        rw [p15, p_] at e15
        rw [p_]
        show (execOp a.eval _).run _ _ = .ok (.value nilV) w'
        go_simp
      · intro b V a w' hoff hd ho hB
        obtain ⟨e15, p15⟩ := hd (7, 15) (by decide) (by kernel_rfl)
        have p_ := (hd (6, 22) (by decide) (by kernel_rfl)).2
        refine ⟨_, rfl, rfl, fun K hK => ?_⟩
        refine value_ (w1 := w') (v := tpart 1 (V 6)) rfl rfl ?_ (hK.out _ _ (Below.refl _ _) (by show setV V 9 _ 9 = tpart 1 (setV V 9 _ 6); rw [setV_self, setV_ne _ _ (by decide)]))
        clear hK hd ho
        rw [p15, p_] at e15
        rw [p_]
        show (execOp a.eval _).run _ _ = .ok (.value nilW) w'
        go_simp
      · intro b V a w' hoff hd ho hB
        obtain ⟨e15, p15⟩ := hd (7, 15) (by decide) (by kernel_rfl)
        have p_ := (hd (6, 22) (by decide) (by kernel_rfl)).2
        refine ⟨_, rfl, rfl, fun K hK => ?_⟩
        refine value_ (w1 := w') (v := tpart 2 (V 6)) rfl rfl ?_ (hK.out _ _ (Below.refl _ _) (by show setV V 10 _ 10 = tpart 2 (setV V 10 _ 6); rw [setV_self, setV_ne _ _ (by decide)]))
        clear hK hd ho
        rw [p15, p_] at e15
        rw [p_]
        show (execOp a.eval _).run _ _ = .ok (.value nilV) w'
        go_simp
      · intro b V a w' hoff hd ho hB
        obtain ⟨e15, p15⟩ := hd (7, 15) (by decide) (by kernel_rfl)
        have p_ := (hd (6, 22) (by decide) (by kernel_rfl)).2
        refine ⟨_, rfl, rfl, fun K hK => ?_⟩
        refine value_ (w1 := w') (v := tpart 3 (V 6)) rfl rfl ?_ (hK.out _ _ (Below.refl _ _) (by show setV V 11 _ 11 = tpart 3 (setV V 11 _ 6); rw [setV_self, setV_ne _ _ (by decide)]))
        clear hK hd ho
        rw [p15, p_] at e15
        rw [p_]
        show (execOp a.eval _).run _ _ = .ok (.value (.int .i64 (playE d1 l1))) w'
        go_simp
      · intro b V a w' hoff hd ho hB
        have hb_ := hoff 14 (by decide) (by kernel_rfl)
        refine ⟨_, rfl, rfl, fun K hK => ?_⟩
        refine value_ (w1 := w'.alloc (.cells zero5.toArray TWD)) (v := .pointer (some ⟨w'.heap.size, 0, none⟩)) rfl rfl ?_ (hK.out _ _ ((Below.refl _ _).alloc (Nat.le_refl _) _) ⟨w'.heap.size, setV_self _ _ _, fun _ => Blk.new w' TWD zero5, hB.size⟩)
        clear hd ho hK
        go_simp
      · intro b V a w' hoff hd ho hB
        obtain ⟨e23, p23⟩ := hd (8, 23) (by decide) (by kernel_rfl)
        have p_ := (hd (6, 22) (by decide) (by kernel_rfl)).2
        refine ⟨_, rfl, rfl, fun K hK => ?_⟩
        refine value_ (w1 := w') (v := tpart 0 (V 6)) rfl rfl ?_ (hK.out _ _ (Below.refl _ _) (by show setV V 13 _ 13 = tpart 0 (setV V 13 _ 6); rw [setV_self, setV_ne _ _ (by decide)]))
        clear hK hd ho
        rw [p23, p_] at e23
        change a.tmps[23]? = some nilV at e23
        rw [p_]
        show (execOp a.eval _).run _ _ = .ok (.value nilV) w'
        go_simp
      · intro b V a w' hoff hd ho hB
        obtain ⟨e25, p25⟩ := hd (10, 25) (by decide) (by kernel_rfl)
        have p_ := (hd (6, 22) (by decide) (by kernel_rfl)).2
        refine ⟨_, rfl, rfl, fun K hK => ?_⟩
        refine value_ (w1 := w') (v := tpart 2 (V 6)) rfl rfl ?_ (hK.out _ _ (Below.refl _ _) (by show setV V 15 _ 15 = tpart 2 (setV V 15 _ 6); rw [setV_self, setV_ne _ _ (by decide)]))
        clear hK hd ho
        rw [p25, p_] at e25
        change a.tmps[25]? = some nilV at e25
        rw [p_]
        show (execOp a.eval _).run _ _ = .ok (.value nilV) w'
        go_simp
      · intro b V a w' hoff hd ho hB
        obtain ⟨e26, p26⟩ := hd (11, 26) (by decide) (by kernel_rfl)
        have p_ := (hd (6, 22) (by decide) (by kernel_rfl)).2
        refine ⟨_, rfl, rfl, fun K hK => ?_⟩
        refine value_ (w1 := w') (v := tpart 3 (V 6)) rfl rfl ?_ (hK.out _ _ (Below.refl _ _) (by show setV V 16 _ 16 = tpart 3 (setV V 16 _ 6); rw [setV_self, setV_ne _ _ (by decide)]))
        clear hK hd ho
        rw [p26, p_] at e26
        change a.tmps[26]? = some (.int .i64 (playE d1 l1)) at e26
        rw [p_]
        show (execOp a.eval _).run _ _ = .ok (.value (.int .i64 (playE d1 l1))) w'
        go_simp
    · intro s hs
      simp only [List.map_cons, List.map_nil, List.cons_append, List.nil_append, List.mem_cons, List.not_mem_nil, or_false] at hs
      subst hs
      · intro b V a w' hb_ hd ho hB
        obtain ⟨e4, p4⟩ := hd (12, 4) (by decide) (by kernel_rfl)
        obtain ⟨e24, p24⟩ := hd (9, 24) (by decide) (by kernel_rfl)
        obtain ⟨e22, p22⟩ := hd (6, 22) (by decide) (by kernel_rfl)
        refine ⟨_, rfl, rfl, fun K hK => ?_⟩
        obtain ⟨g, hg, hgz0, hgl⟩ := p4
        have hgz := hgz0 hb_
        rw [hg] at e4
        have p_ := (hd (6, 22) (by decide) (by kernel_rfl)).2
        have hx : V 9 = nilW := by rw [p24, p_]; rfl
        rw [hx] at e24
        have hst := run_store_run (P := Try.prog) (w := w') (g := g) (o := 0) TWD nilW zero5 hgz rfl wsize (by simp [zero5]) (by intro q hq; simp only [List.mem_cons, List.not_mem_nil, or_false] at hq; rcases hq with rfl | rfl | rfl | rfl | rfl <;> rfl)
        obtain ⟨hbz, hfz⟩ := res_end hgz (.slice none 0 0) (.slice none 0 0) (.slice none 0 0) (.slice none 0 0) (.slice none 0 0) _ rfl
        refine skip_ (by rfl) rfl (store_exec rfl (eval_of e4) (eval_of e24) hst) (hK.out _ (hB.trans (hfz.below hB.size (fun k hk => by rw [hk]; exact hgl))) ⟨g, hg, by rw [hx]; exact hbz, hgl⟩ (fun i hi hne hbi hp => ?_))
        simp only [List.map_cons, List.map_nil, List.cons_append, List.nil_append, List.mem_cons, List.not_mem_nil, or_false] at hi
        rcases hi with rfl | rfl | rfl | rfl | rfl | rfl | rfl | rfl | rfl | rfl | rfl | rfl | rfl | rfl | rfl | rfl | rfl
        · exact hp
        · exact hp
        · exact .inl (up_self _ _)
        · exact hp
        · exact hp
        · exact .inl (up_self _ _)
        · exact hp
        · exact hp
        · exact hp
        · exact hp
        · exact hp
        · exact hp
        · obtain ⟨g2, k1, _, k3⟩ := hp; exact ⟨g2, k1, fun h => absurd ((up_self b _).symm.trans h) (by decide), k3⟩
        · exact hp
        · exact hp
        · exact hp
        · exact absurd rfl hne
    · intro b V a w' hball hfr hB hP
      have hb14 := hball 14 (by decide)
      have P0 := hP 0 (by decide)
      have P1 := hP 1 (by decide)
      have P2 := hP 2 (by decide)
      have P3 := hP 3 (by decide)
      have P4 := hP 4 (by decide)
      have P5 := hP 5 (by decide)
      have P6 := hP 6 (by decide)
      have P7 := hP 7 (by decide)
      have P8 := hP 8 (by decide)
      have P9 := hP 9 (by decide)
      have P10 := hP 10 (by decide)
      have P11 := hP 11 (by decide)
      have P12 := hP 12 (by decide)
      have P13 := hP 13 (by decide)
      have P15 := hP 15 (by decide)
      have P16 := hP 16 (by decide)
      have P14 := hP 14 (by decide)
      clear hP hball
      obtain ⟨g, hg, hgb, hgl⟩ := P14
      have x0 : V 13 = nilV := by rw [P13, P6]; rfl
      have x1 : V 9 = nilW := by rw [P9, P6]; rfl
      have x2 : V 15 = nilV := by rw [P15, P6]; rfl
      have x3 : V 16 = .int .i64 (playE d1 l1) := by rw [P16, P6]; rfl
      rw [x1] at hgb
      have HBA2 := Lib.hid (HBQ.out _ hB)
      have HPAR := Lib.hid ((Fr.of_below0 (S := fun _ => False) HBA2.out).blk HPB2.out id)
      have HBXG := Lib.hid (show Blk w' g TWD (wv0.cells wd0) from hgb)
      subst hfr
      simp only [vrows, List.map_cons, List.map_nil, putSel, if_true, Act.put, List.setIfInBounds_toArray, List.set_cons_zero, List.set_cons_succ]
      rw [hg, x0, x2, x3]
      clear P0 P1 P2 P3 P4 P5 P6 P7 P8 P9 P10 P11 P12 P13 P15 P16 x0 x1 x2 x3 hg hgb hgl hB HBQ HSQ HVQ HAQ HPC0 HPC1 HPC2 HPC3 HPC4 HPC5 HPB2 HLB HPL
      have hp0 := HPAR.out.cell 0
      have hp1 := HPAR.out.cell 1
      have hp2 := HPAR.out.cell 2
      have hp3 := HPAR.out.cell 3
      have hp4 := HPAR.out.cell 4
      have hp5 := HPAR.out.cell 5
      simp only [List.getElem?_cons_zero, List.getElem?_cons_succ] at hp0 hp1 hp2 hp3 hp4 hp5
      go_wp2_with fail
      refine (ref_Play w' v1 d1 (HVB.out _ HBA2.out) HLL.out.2.2.1 HLL.out.2.2.2.1 HLL.out.2.2.2.2.1 A c l1 (HA.out _ (HBB.out.trans (HBA2.out.mono HBB.out.size))) (by omega)).mono ?_
      rintro e w2 ⟨hbl, hpp⟩
      rcases hpp with ⟨_, rfl⟩ | ⟨h, _⟩
      rotate_left
      · exact absurd h HPE.out
      have HBL := Lib.hid hbl
      clear hbl hp0 hp1 hp2 hp3 hp4 hp5
      have hgz := Blk.new w2 TRW zero5
      have hr0 := hgz.cell 0
      have hr1 := hgz.cell 1
      have hr2 := hgz.cell 2
      have hr3 := hgz.cell 3
      have hr4 := hgz.cell 4
      have hf0 := hgz.free ⟨w2.heap.size, 0, none⟩ rfl
      have hf1 := hgz.free ⟨w2.heap.size, 1, none⟩ rfl
      have hf2 := hgz.free ⟨w2.heap.size, 2, none⟩ rfl
      have hf3 := hgz.free ⟨w2.heap.size, 3, none⟩ rfl
      have hf4 := hgz.free ⟨w2.heap.size, 4, none⟩ rfl
      simp only [List.getElem?_cons_zero, List.getElem?_cons_succ] at hr0 hr1 hr2 hr3 hr4
      clear hgz
      go_wp2_with fail
      have HBE6 := Lib.hid (Blk.new w2 TRW (wv0.cells wd0))
      have hal := (Below.refl w2.heap.size w2).alloc (Nat.le_refl _) (.cells (wv0.cells wd0).toArray TRW)
      have HB6 := Lib.hid ((HBA2.out.trans (HBL.out.mono HBA2.out.size)).trans (hal.mono (Nat.le_trans HBA2.out.size HBL.out.size)))
      have HBL6 := Lib.hid ((Fr.of_below0 (S := fun _ => False) hal).blk ((Fr.of_below0 (S := fun _ => False) HBL.out).blk HBXG.out id) id)
      have HRE6 := Lib.hid (wv0_reads (w2.alloc (.cells (wv0.cells wd0).toArray TRW)))
      have HRL6 := HRE6
      have HR16 := Lib.hid (row1_nil (w2.alloc (.cells (wv0.cells wd0).toArray TRW)))
      have HK16 := HR16
      have HR26 := HR16
      have HK26 := HR16
      clear hal HBXG HBL HBA2 HPAR hr0 hr1 hr2 hr3 hr4 hf0 hf1 hf2 hf3 hf4
      obtain ⟨g2, hg2⟩ : ∃ x, x = w2.heap.size := ⟨_, rfl⟩
      rw [← hg2] at HBE6 ⊢
      generalize w2.alloc (.cells (wv0.cells wd0).toArray TRW) = wf at *
      clear hg2
      generalize playE d1 l1 = ee at *
      obtain ⟨B0, hB0⟩ : ∃ B, B = wf.drew.heap.size := ⟨_, rfl⟩
      have HBQ := Lib.hid (show ∀ w'', Below B0 wf.drew w'' → Below wf.heap.size wf w'' from fun _ hb => ⟨hb.os, hb.tape, hb.output, hb.size, by rw [hB0] at hb; exact hb.block⟩)
      have HBS := Lib.hid (show ∀ w'', Below B0 wf.drew w'' → B0 ≤ w''.heap.size from fun _ hb => by rw [hB0]; exact hb.size)
      clear hB0
      have HRE := Lib.hid (fun w'' (hb : Below B0 wf.drew w'') => HRE6.out.below (HBQ.out w'' hb))
      have HRL := Lib.hid (fun w'' (hb : Below B0 wf.drew w'') => HRL6.out.below (HBQ.out w'' hb))
      have HCL0 := Lib.hid (fun w'' (hb : Below B0 wf.drew w'') => pw_cell_below (w := wf) (HBQ.out w'' hb) (HBL6.out.cell 0))
      have HCL1 := Lib.hid (fun w'' (hb : Below B0 wf.drew w'') => pw_cell_below (w := wf) (HBQ.out w'' hb) (HBL6.out.cell 1))
      have HCL2 := Lib.hid (fun w'' (hb : Below B0 wf.drew w'') => pw_cell_below (w := wf) (HBQ.out w'' hb) (HBL6.out.cell 2))
      have HCL3 := Lib.hid (fun w'' (hb : Below B0 wf.drew w'') => pw_cell_below (w := wf) (HBQ.out w'' hb) (HBL6.out.cell 3))
      have HCL4 := Lib.hid (fun w'' (hb : Below B0 wf.drew w'') => pw_cell_below (w := wf) (HBQ.out w'' hb) (HBL6.out.cell 4))
      have HCE0 := Lib.hid (fun w'' (hb : Below B0 wf.drew w'') => pw_cell_below (w := wf) (HBQ.out w'' hb) (HBE6.out.cell 0))
      have HCE1 := Lib.hid (fun w'' (hb : Below B0 wf.drew w'') => pw_cell_below (w := wf) (HBQ.out w'' hb) (HBE6.out.cell 1))
      have HCE2 := Lib.hid (fun w'' (hb : Below B0 wf.drew w'') => pw_cell_below (w := wf) (HBQ.out w'' hb) (HBE6.out.cell 2))
      have HCE3 := Lib.hid (fun w'' (hb : Below B0 wf.drew w'') => pw_cell_below (w := wf) (HBQ.out w'' hb) (HBE6.out.cell 3))
      have HCE4 := Lib.hid (fun w'' (hb : Below B0 wf.drew w'') => pw_cell_below (w := wf) (HBQ.out w'' hb) (HBE6.out.cell 4))
      have HR1 := Lib.hid (fun w'' (hb : Below B0 wf.drew w'') => HR16.out.below (HBQ.out w'' hb))
      have HR2 := Lib.hid (fun w'' (hb : Below B0 wf.drew w'') => HR26.out.below (HBQ.out w'' hb))
      have HK1 := Lib.hid (fun w'' (hb : Below B0 wf.drew w'') => HK16.out.below (HBQ.out w'' hb))
      have HK2 := Lib.hid (fun w'' (hb : Below B0 wf.drew w'') => HK26.out.below (HBQ.out w'' hb))
      have HFIN := Lib.hid (show ∀ w'', Below B0 wf.drew w'' → Below w.heap.size w w'' from fun w'' hb => HBB.out.trans ((HB6.out.trans ((HBQ.out w'' hb).mono HB6.out.size)).mono HBB.out.size))
      clear HB6 HRE6 HRL6 HBL6 HBE6 HR16 HR26 HK16 HK26 HBB HPB HLL HVB HA HBQ HPE
      refine start_ (n := 20) (S := fun w' => Below B0 wf.drew w') (ds := []) #[false, false, false, false, false, false, false, false, false, false, false, false, false, false, false, false, false, false, false, false] (by kernel_rfl) rfl rfl (Below.refl _ _) (fun hHeld => ?_)
      have S1 : Below B0 wf.drew wf.drew := Below.refl _ _
      generalize wf.drew = wR at *
      refine pure_ (i := 0) (N := some 37) (v := ?_) (a' := ?_) #[true, false, false, false, false, false, false, false, false, false, false, false, false, false, false, false, false, false, false, false] rfl rfl (by kernel_rfl) (fun _ _ _ h => h) (Or.inl ⟨by rfl, ?_⟩) ?_ ?_
      rotate_left
      · intro w'
        go_simp
        with_reducible rfl
      rotate_left
      · simp only [Act.put, List.setIfInBounds_toArray, List.set_cons_zero, List.set_cons_succ]
        rfl
      refine pure_ (i := 1) (N := some 38) (v := ?_) (a' := ?_) #[true, true, false, false, false, false, false, false, false, false, false, false, false, false, false, false, false, false, false, false] rfl rfl (by kernel_rfl) (fun _ _ _ h => h) (Or.inl ⟨by rfl, ?_⟩) ?_ ?_
      rotate_left
      · intro w'
        go_simp
        with_reducible rfl
      rotate_left
      · simp only [Act.put, List.setIfInBounds_toArray, List.set_cons_zero, List.set_cons_succ]
        rfl
      refine pure_ (i := 2) (N := some 39) (v := ?_) (a' := ?_) #[true, true, true, false, false, false, false, false, false, false, false, false, false, false, false, false, false, false, false, false] rfl rfl (by kernel_rfl) (fun _ _ _ h => h) (Or.inl ⟨by rfl, ?_⟩) ?_ ?_
      rotate_left
      · intro w'
        go_simp
        with_reducible rfl
      rotate_left
      · simp only [Act.put, List.setIfInBounds_toArray, List.set_cons_zero, List.set_cons_succ]
        rfl
      refine pure_ (i := 3) (N := some 40) (v := ?_) (a' := ?_) #[true, true, true, true, false, false, false, false, false, false, false, false, false, false, false, false, false, false, false, false] rfl rfl (by kernel_rfl) (fun _ _ _ h => h) (Or.inl ⟨by rfl, ?_⟩) ?_ ?_
      rotate_left
      · intro w'
        go_simp
        with_reducible rfl
      rotate_left
      · simp only [Act.put, List.setIfInBounds_toArray, List.set_cons_zero, List.set_cons_succ]
        rfl
      refine pure_ (i := 4) (N := some 41) (v := ?_) (a' := ?_) #[true, true, true, true, true, false, false, false, false, false, false, false, false, false, false, false, false, false, false, false] rfl rfl (by kernel_rfl) (fun _ _ _ h => h) (Or.inl ⟨by rfl, ?_⟩) ?_ ?_
      rotate_left
      · intro w'
        go_simp
        with_reducible rfl
      rotate_left
      · simp only [Act.put, List.setIfInBounds_toArray, List.set_cons_zero, List.set_cons_succ]
        rfl
      refine pure_ (i := 5) (N := some 42) (v := ?_) (a' := ?_) #[true, true, true, true, true, true, false, false, false, false, false, false, false, false, false, false, false, false, false, false] rfl rfl (by kernel_rfl) (fun _ _ _ h => h) (Or.inl ⟨by rfl, ?_⟩) ?_ ?_
      rotate_left
      · intro w'
        go_simp
        with_reducible rfl
      rotate_left
      · simp only [Act.put, List.setIfInBounds_toArray, List.set_cons_zero, List.set_cons_succ]
        rfl
      refine one_ (i := 6) (N := some 43) #[true, true, true, true, true, true, true, false, false, false, false, false, false, false, false, false, false, false, false, false] rfl rfl (by kernel_rfl) (by decide) (fun K hK => ?_)
      refine goes_ Try.func21 (by kernel_rfl) rfl #[.slice none 0 0, .slice none 0 0] (by rfl) rfl rfl (by simp [Act.eval]) ?_
      refine (same_ints' _ _ 0 [] _ _ _ rfl (by omega) (HR1.out _ S1) (HR2.out _ S1)).mono ?_
      rintro e w9 ⟨rfl, m9, rfl⟩
      refine ⟨_, rfl, hK.out _ _ (pw_below_drewN S1 m9) (fun hHeld => ?_)⟩
      simp only [Act.put, List.setIfInBounds_toArray, List.set_cons_zero, List.set_cons_succ]
      have S2 := pw_below_drewN S1 m9
      clear hK S1
      generalize wR.drewN m9 = wn2 at *
      refine pure_ (i := 7) (N := some 44) (v := ?_) (a' := ?_) #[true, true, true, true, true, true, true, true, false, false, false, false, false, false, false, false, false, false, false, false] rfl rfl (by kernel_rfl) (fun _ _ _ h => h) (Or.inl ⟨by rfl, ?_⟩) ?_ ?_
      rotate_left
      · intro w'
        go_simp
        with_reducible rfl
      rotate_left
      · simp only [Act.put, List.setIfInBounds_toArray, List.set_cons_zero, List.set_cons_succ]
        rfl
      refine pure_ (i := 8) (N := some 45) (v := ?_) (a' := ?_) #[true, true, true, true, true, true, true, true, true, false, false, false, false, false, false, false, false, false, false, false] rfl rfl (by kernel_rfl) (fun _ _ _ h => h) (Or.inl ⟨by rfl, ?_⟩) ?_ ?_
      rotate_left
      · intro w'
        go_simp
        with_reducible rfl
      rotate_left
      · simp only [Act.put, List.setIfInBounds_toArray, List.set_cons_zero, List.set_cons_succ]
        rfl
      refine pure_ (i := 9) (N := some 46) (v := ?_) (a' := ?_) #[true, true, true, true, true, true, true, true, true, true, false, false, false, false, false, false, false, false, false, false] rfl rfl (by kernel_rfl) (fun _ _ _ h => h) (Or.inl ⟨by rfl, ?_⟩) ?_ ?_
      rotate_left
      · intro w'
        go_simp
        with_reducible rfl
      rotate_left
      · simp only [Act.put, List.setIfInBounds_toArray, List.set_cons_zero, List.set_cons_succ]
        rfl
      refine pure_ (i := 10) (N := some 47) (v := ?_) (a' := ?_) #[true, true, true, true, true, true, true, true, true, true, true, false, false, false, false, false, false, false, false, false] rfl rfl (by kernel_rfl) (fun _ _ _ h => h) (Or.inl ⟨by rfl, ?_⟩) ?_ ?_
      rotate_left
      · intro w'
        go_simp
        with_reducible rfl
      rotate_left
      · simp only [Act.put, List.setIfInBounds_toArray, List.set_cons_zero, List.set_cons_succ]
        rfl
      refine one_ (i := 11) (N := some 48) #[true, true, true, true, true, true, true, true, true, true, true, true, false, false, false, false, false, false, false, false] rfl rfl (by kernel_rfl) (by decide) (fun K hK => ?_)
      refine goes_ Try.func21 (by kernel_rfl) rfl #[.slice none 0 0, .slice none 0 0] (by rfl) rfl rfl (by simp [Act.eval]) ?_
      refine (same_ints' _ _ 0 [] _ _ _ rfl (by omega) (HK1.out _ S2) (HK2.out _ S2)).mono ?_
      rintro e w9 ⟨rfl, m9, rfl⟩
      refine ⟨_, rfl, hK.out _ _ (pw_below_drewN S2 m9) (fun hHeld => ?_)⟩
      simp only [Act.put, List.setIfInBounds_toArray, List.set_cons_zero, List.set_cons_succ]
      have S3 := pw_below_drewN S2 m9
      clear hK S2
      generalize wn2.drewN m9 = wn3 at *
      refine pure_ (i := 12) (N := some 49) (v := ?_) (a' := ?_) #[true, true, true, true, true, true, true, true, true, true, true, true, true, false, false, false, false, false, false, false] rfl rfl (by kernel_rfl) (fun _ _ _ h => h) (Or.inl ⟨by rfl, ?_⟩) ?_ ?_
      rotate_left
      · intro w'
        go_simp
        with_reducible rfl
      rotate_left
      · simp only [Act.put, List.setIfInBounds_toArray, List.set_cons_zero, List.set_cons_succ]
        rfl
      refine pure_ (i := 13) (N := some 50) (v := ?_) (a' := ?_) #[true, true, true, true, true, true, true, true, true, true, true, true, true, true, false, false, false, false, false, false] rfl rfl (by kernel_rfl) (fun _ _ _ h => h) (Or.inl ⟨by rfl, ?_⟩) ?_ ?_
      rotate_left
      · intro w'
        go_simp
        with_reducible rfl
      rotate_left
      · simp only [Act.put, List.setIfInBounds_toArray, List.set_cons_zero, List.set_cons_succ]
        rfl
      refine take_ (i := 14) (N := some 51) (v := wv0.val wd0) (a' := ?_) #[true, true, true, true, true, true, true, true, true, true, true, true, true, true, true, false, false, false, false, false] rfl rfl (by kernel_rfl) (fun _ _ _ h => h) (Or.inl ⟨by rfl, ?_⟩) hHeld ?_ ?_
      · rintro w' s0
        have hc0 := HCL0.out w' s0
        have hc1 := HCL1.out w' s0
        have hc2 := HCL2.out w' s0
        have hc3 := HCL3.out w' s0
        have hc4 := HCL4.out w' s0
        go_simp
      rotate_left
      · simp only [Act.put, List.setIfInBounds_toArray, List.set_cons_zero, List.set_cons_succ]
        rfl
      refine take_ (i := 16) (N := some 53) (v := wv0.val wd0) (a' := ?_) #[true, true, true, true, true, true, true, true, true, true, true, true, true, true, true, false, true, false, false, false] rfl rfl (by kernel_rfl) (fun _ _ _ h => h) (Or.inl ⟨by rfl, ?_⟩) hHeld ?_ ?_
      · rintro w' s0
        have hc0 := HCE0.out w' s0
        have hc1 := HCE1.out w' s0
        have hc2 := HCE2.out w' s0
        have hc3 := HCE3.out w' s0
        have hc4 := HCE4.out w' s0
        go_simp
      rotate_left
      · simp only [Act.put, List.setIfInBounds_toArray, List.set_cons_zero, List.set_cons_succ]
        rfl
      refine one_ (i := 15) (N := some 52) #[true, true, true, true, true, true, true, true, true, true, true, true, true, true, true, true, true, false, false, false] rfl rfl (by kernel_rfl) (by decide) (fun K hK => ?_)
      refine goes_ Try.func23 (by kernel_rfl) rfl #[wv0.val wd0] (by rfl) rfl rfl (by simp [Act.eval]) ?_
      refine (law_ours wn3 wv0 wd0).mono ?_
      rintro e wn4 ⟨rfl, hbl⟩
      refine ⟨_, rfl, hK.out _ _ (S3.trans (hbl.mono (HBS.out _ S3))) (fun hHeld => ?_)⟩
      simp only [Act.put, List.setIfInBounds_toArray, List.set_cons_zero, List.set_cons_succ]
      have S4 := S3.trans (hbl.mono (HBS.out _ S3))
      clear hK hbl S3
      refine one_ (i := 17) (N := some 54) #[true, true, true, true, true, true, true, true, true, true, true, true, true, true, true, true, true, true, false, false] rfl rfl (by kernel_rfl) (by decide) (fun K hK => ?_)
      refine goes_ Try.func22 (by kernel_rfl) rfl #[wv0.val wd0, wv0.val wd0] (by rfl) rfl rfl (by simp [Act.eval]) ?_
      refine (ref_Same wn4 wv0 wv0 wd0 (HRL.out _ S4) (HRE.out _ S4) (by decide) (by decide) (by decide) (by decide) (by decide) (fun r hr => by simp at hr)).mono ?_
      rintro e wn5 ⟨rfl, hbl⟩
      refine ⟨_, rfl, hK.out _ _ (S4.trans (hbl.mono (HBS.out _ S4))) (fun hHeld => ?_)⟩
      simp only [Act.put, List.setIfInBounds_toArray, List.set_cons_zero, List.set_cons_succ]
      have S5 := S4.trans (hbl.mono (HBS.out _ S4))
      clear hK hbl S4
      refine pure_ (i := 18) (N := some 55) (v := ?_) (a' := ?_) #[true, true, true, true, true, true, true, true, true, true, true, true, true, true, true, true, true, true, true, false] rfl rfl (by kernel_rfl) (fun _ _ _ h => h) (Or.inl ⟨by rfl, ?_⟩) ?_ ?_
      rotate_left
      · intro w'
        go_simp
        with_reducible rfl
      rotate_left
      · simp only [Act.put, List.setIfInBounds_toArray, List.set_cons_zero, List.set_cons_succ]
        rfl
      refine pure_ (i := 19) (N := some 2) (v := ?_) (a' := ?_) #[true, true, true, true, true, true, true, true, true, true, true, true, true, true, true, true, true, true, true, true] rfl rfl (by kernel_rfl) (fun _ _ _ h => h) (Or.inl ⟨by rfl, ?_⟩) ?_ ?_
      rotate_left
      · intro w'
        go_simp
        with_reducible rfl
      rotate_left
      · simp only [Act.put, List.setIfInBounds_toArray, List.set_cons_zero, List.set_cons_succ]
        rfl
      refine done_ (by kernel_rfl) ?_
      have HF := Lib.hid (HFIN.out _ S5)
      clear S5 HFIN HBS HRE HRL HR1 HR2 HK1 HK2 HCE0 HCL0 HCE1 HCL1 HCE2 HCL2 HCE3 HCL3 HCE4 HCL4
      go_wp2
      exact HQ'.out _ _ ⟨rfl, HF.out⟩
end Go.Proofs.Ytphhdmopfmelbaa
