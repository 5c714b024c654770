/- larchlaw12: RecordBeginnings. Written by p_begin.py. -/
import Derived.Test.YtphhdmopfmelbaaLaw12D
import Derived.Test.YtphhdmopfmelbaaPlain12
namespace Go.Proofs.Ytphhdmopfmelbaa
open Go.RowKit Go.Proofs.YtphhdmopfmelbaaW.PrintWords Go.Proofs.YtphhdmopfmelbaaW.PrintLast
set_option linter.unusedVariables false
set_option linter.unusedSimpArgs false

abbrev CaseLen (d : WD) (l : List ActD) : Prop := d.fields.length ≤ 1000000000000000 ∧ d.infos.length * 8 ≤ 140737488351232 ∧ d.marks.length ≤ 140737488351232 ∧ d.states.length ≤ 1000000000000000 ∧ d.frozen.length ≤ 1000000000000000 ∧ l.length ≤ 1000000000000000
theorem less_len {d : WD} {l : List ActD} (h : CaseLen d l) (hr : ∀ r ∈ d.fields, r.length ≤ 1000000000000000) : ((lessD d).fields.length ≤ 1000000000 ∧ (lessD d).infos.length * 8 ≤ 140737488351232 ∧ (lessD d).marks.length ≤ 140737488351232 ∧ (lessD d).states.length * 8 ≤ 140737488351232 ∧ (lessD d).frozen.length ≤ 140737488351232) ∧ (∀ r ∈ (lessD d).fields, r.length * 8 ≤ 140737488351232) ∧
    (lessD d).fields.length < 100000000 ∧ (lessD d).states.length < 100000000 ∧ (∀ r ∈ (lessD d).fields, r.length < 100000000) ∧ (lessD d).infos.length ≤ 1000000000000000 := by
  obtain ⟨h0, h1, h2, h3, h4, h5⟩ := h
  have e0 : (lessD d).fields.length ≤ 70 := by simp [lessD]; omega
  have e3 : (lessD d).states.length ≤ 70 := by simp [lessD]; omega
  have e4 : (lessD d).frozen.length ≤ 70 := by simp [lessD]; omega
  have e1 : (lessD d).infos.length ≤ d.infos.length := by
    unfold lessD
    split
    · exact List.length_take_le' 70 d.infos
    · exact Nat.le_refl _
  have e2 : (lessD d).marks.length ≤ d.marks.length := by
    unfold lessD
    split
    · exact List.length_take_le' 70 d.marks
    · exact Nat.le_refl _
  have er : ∀ r ∈ (lessD d).fields, r.length ≤ 70 := fun r hr => by
    simp only [lessD, List.mem_map] at hr
    obtain ⟨q, _, rfl⟩ := hr
    simp; omega
  exact ⟨⟨by omega, by omega, by omega, by omega, by omega⟩, fun r hr => by have := er r hr; omega, by omega, by omega, fun r hr => by have := er r hr; omega, by omega⟩

theorem acts_take {w : World} {A : Option Addr} {l : List ActD} (h : ActsAt w A l) (k : Nat) : ActsAt w A (l.take k) := fun hl => by
  obtain ⟨b, o, e, hc⟩ := h (by simp at hl; omega)
  exact ⟨b, o, e, fun j x hx i u hu => hc j x (by rw [List.getElem?_take] at hx; split at hx; exact hx; cases hx) i u hu⟩

theorem acts_drop {w : World} {A : Option Addr} {l : List ActD} (h : ActsAt w A l) (k c : Nat) (hc : l.length ≤ c) : ActsAt w (if c = k then A else A.map (fun a => a.add (k * 5))) (l.drop k) := fun hl => by
  have hk : k < l.length := by simp at hl; omega
  obtain ⟨b, o, e, hx⟩ := h (by omega)
  rw [if_neg (by omega)]
  refine ⟨b, o + k * 5, by rw [e, Option.map_some, Addr.add_lit], fun j x hj i u hu => ?_⟩
  rw [List.getElem?_drop] at hj
  have := hx (k + j) x hj i u hu
  rwa [show o + (k + j) * 5 + i = o + k * 5 + j * 5 + i by omega] at this

set_option maxHeartbeats 4000000 in
set_option maxRecDepth 100000 in
theorem law_begin (w : World) (v : WV) (d : WD) (hv : v.Reads w d) (A : Option Addr) (c : Nat) (l : List ActD) (ha : ActsAt w A l) (hlc : l.length ≤ c) (N M : Int) (hN : -9223372036854775808 ≤ N ∧ N ≤ 9223372036854775807)
    (hl : CaseLen d l) (hr : ∀ r ∈ d.fields, r.length ≤ 1000000000000000) :
    Calls Try.prog 6 #[caseV v d A c l N M] w fun e w' => e = .returned (.bool true) ∧ Below w.heap.size w w' := by
  refine calls_hide fun Q HQ => ?_
  have HQ' := Lib.hid HQ
  have hba := (Below.refl w.heap.size w).alloc (Nat.le_refl _) (.cells (caseC v d A c l.length N M).toArray TCA)
  have HBA := Lib.hid hba
  have HB1 := Lib.hid (Blk.new w TCA (caseC v d A c l.length N M))
  have HV := Lib.hid hv
  have HA := Lib.hid (show ∀ w'', Below w.heap.size w w'' → ActsAt w'' A (l.take 1100) from fun w'' hb => acts_take (ha.below hb) 1100)
  have HL := Lib.hid hl
  have HR := Lib.hid hr
  have HLL := Lib.hid (less_len hl hr)
  clear HQ hv ha hba hl hr
  go_enter Try.func6, Try.ntmps6
  go_wp2_with fail
  generalize w.alloc (.cells (caseC v d A c l.length N M).toArray TCA) = wA at *
  obtain ⟨pb, hpb⟩ : ∃ pb, pb = w.heap.size := ⟨_, rfl⟩
  rw [← hpb]
  have HPB := Lib.hid hpb
  rw [← hpb] at HB1
  clear hpb
  refine (law_fixed wA).mono ?_
  rintro e w1 ⟨rfl, hbl⟩
  have HBW := Lib.hid (HBA.out.trans (hbl.mono HBA.out.size))
  have HB2 := Lib.hid ((Fr.of_below0 (S := fun _ => False) hbl).blk HB1.out id)
  clear hbl HB1 HBA
  have hq0 := HB2.out.cell 0
  have hq1 := HB2.out.cell 1
  have hq2 := HB2.out.cell 2
  have hq3 := HB2.out.cell 3
  have hq4 := HB2.out.cell 4
  have hq5 := HB2.out.cell 5
  have hq6 := HB2.out.cell 6
  have hq7 := HB2.out.cell 7
  -- have hf0 := HB2.out.free ⟨pb, 0, none⟩ rfl
  -- have hf1 := HB2.out.free ⟨pb, 1, none⟩ rfl
  -- have hf2 := HB2.out.free ⟨pb, 2, none⟩ rfl
  -- have hf3 := HB2.out.free ⟨pb, 3, none⟩ rfl
  -- have hf4 := HB2.out.free ⟨pb, 4, none⟩ rfl
  -- have hf5 := HB2.out.free ⟨pb, 5, none⟩ rfl
  -- have hf6 := HB2.out.free ⟨pb, 6, none⟩ rfl
  -- have hf7 := HB2.out.free ⟨pb, 7, none⟩ rfl
  simp only [List.getElem?_cons_zero, List.getElem?_cons_succ] at hq0 hq1 hq2 hq3 hq4 hq5 hq6 hq7
  go_wp2_with fail
  refine (law_less w w1 HBW.out v d HV.out A c l hlc N M ⟨HL.out.1, by have := HL.out.2.1; omega, by have := HL.out.2.2.1; omega, HL.out.2.2.2.1, HL.out.2.2.2.2.1, HL.out.2.2.2.2.2⟩ HR.out).mono ?_
  rintro e w2 ⟨v1, rfl, hrd, hbl⟩
  have HBW2 := Lib.hid (HBW.out.trans (hbl.mono HBW.out.size))
  have HB3 := Lib.hid ((Fr.of_below0 (S := fun _ => False) hbl).blk HB2.out id)
  have HV2 := Lib.hid hrd
  have hl1 : (l.take 1100).length ≤ 1100 := by simp; omega
  have hlc1 : (l.take 1100).length ≤ c := by simp; omega
  have HSZ := Lib.hid (show pb < w1.heap.size from HB2.out.lt)
  clear hbl hrd HBW HB2 HV hlc HL HR hq0 hq1 hq2 hq3 hq4 hq5 hq6 hq7
  generalize l.take 1100 = l1 at *
  generalize lessD d = d1 at *
  have hq0 := HB3.out.cell 0
  have hq1 := HB3.out.cell 1
  have hq2 := HB3.out.cell 2
  have hq3 := HB3.out.cell 3
  have hq4 := HB3.out.cell 4
  have hq5 := HB3.out.cell 5
  have hq6 := HB3.out.cell 6
  have hq7 := HB3.out.cell 7
  have hf0 := HB3.out.free ⟨pb, 0, none⟩ rfl
  have hf1 := HB3.out.free ⟨pb, 1, none⟩ rfl
  have hf2 := HB3.out.free ⟨pb, 2, none⟩ rfl
  have hf3 := HB3.out.free ⟨pb, 3, none⟩ rfl
  have hf4 := HB3.out.free ⟨pb, 4, none⟩ rfl
  have hf5 := HB3.out.free ⟨pb, 5, none⟩ rfl
  have hf6 := HB3.out.free ⟨pb, 6, none⟩ rfl
  have hf7 := HB3.out.free ⟨pb, 7, none⟩ rfl
  simp only [List.getElem?_cons_zero, List.getElem?_cons_succ] at hq0 hq1 hq2 hq3 hq4 hq5 hq6 hq7
  have HBS := Lib.hid (res_endC rfl HB3.out (.slice v1.A0 d1.fields.length v1.c0) (.slice v1.A1 d1.infos.length v1.c1) (.slice v1.A2 d1.marks.length v1.c2) (.slice v1.A3 d1.states.length v1.c3) (.slice v1.A4 d1.frozen.length v1.c4) (.slice A l1.length c) (.int .i64 N) (.int .i64 M) _ rfl)
  go_wp2_with fail
  generalize (((((((w2.setCell ⟨pb, 0, none⟩ (.slice v1.A0 d1.fields.length v1.c0)).setCell ⟨pb, 1, none⟩ (.slice v1.A1 d1.infos.length v1.c1)).setCell ⟨pb, 2, none⟩ (.slice v1.A2 d1.marks.length v1.c2)).setCell ⟨pb, 3, none⟩ (.slice v1.A3 d1.states.length v1.c3)).setCell ⟨pb, 4, none⟩ (.slice v1.A4 d1.frozen.length v1.c4)).setCell ⟨pb, 5, none⟩ (.slice A l1.length c)).setCell ⟨pb, 6, none⟩ (.int .i64 N)).setCell ⟨pb, 7, none⟩ (.int .i64 M) = wB at *
  have HBB := Lib.hid (show Below w.heap.size w wB from HBW2.out.trans (HBS.out.2.below HBW2.out.size (fun k hk => by have := HPB.out; omega)))
  have HVB := Lib.hid (show ∀ w'', Below wB.heap.size wB w'' → v1.Reads w'' d1 from fun w'' hb => HV2.out w'' (HBB.out.trans (hb.mono HBB.out.size)) (fun k h1 h2 => by
    rw [hb.block k (Nat.lt_of_lt_of_le h2 HBS.out.2.size)]
    exact HBS.out.2.block k h2 (fun e => by have := HSZ.out; omega)))
  have HPB2 := Lib.hid (show Blk wB pb TCA (caseC v1 d1 A c l1.length N M) from HBS.out.1)
  clear HBS HB3 HV2 HBW2 HSZ hq0 hq1 hq2 hq3 hq4 hq5 hq6 hq7
  by_cases hE : playE d1 l1 = 0
  · have HPE := Lib.hid hE
    clear hE
    refine start_ (n := 17) (S := fun _ => True) (ds := []) #[false, false, false, false, false, false, false, false, false, false, false, false, false, false, false, false, false] (by kernel_rfl) rfl rfl trivial (fun _ => ?_)
    have HPC0 := Lib.hid (fun w' (hb : Below wB.drew.heap.size wB.drew w') => pw_cell_below (w := wB.drew) hb (HPB2.out.cell 0))
    have HPC1 := Lib.hid (fun w' (hb : Below wB.drew.heap.size wB.drew w') => pw_cell_below (w := wB.drew) hb (HPB2.out.cell 1))
    have HPC2 := Lib.hid (fun w' (hb : Below wB.drew.heap.size wB.drew w') => pw_cell_below (w := wB.drew) hb (HPB2.out.cell 2))
    have HPC3 := Lib.hid (fun w' (hb : Below wB.drew.heap.size wB.drew w') => pw_cell_below (w := wB.drew) hb (HPB2.out.cell 3))
    have HPC4 := Lib.hid (fun w' (hb : Below wB.drew.heap.size wB.drew w') => pw_cell_below (w := wB.drew) hb (HPB2.out.cell 4))
    have HPC5 := Lib.hid (fun w' (hb : Below wB.drew.heap.size wB.drew w') => pw_cell_below (w := wB.drew) hb (HPB2.out.cell 5))
    have HVQ := Lib.hid (fun w' (hb : Below wB.drew.heap.size wB.drew w') => HVB.out w' ⟨hb.os, hb.tape, hb.output, hb.size, hb.block⟩)
    have HAQ := Lib.hid (fun w' (hb : Below wB.drew.heap.size wB.drew w') => HA.out w' (HBB.out.trans ((show Below wB.heap.size wB w' from ⟨hb.os, hb.tape, hb.output, hb.size, hb.block⟩).mono HBB.out.size)))
    have HBQ := Lib.hid (show ∀ w', Below wB.drew.heap.size wB.drew w' → Below wB.heap.size wB w' from fun _ hb => ⟨hb.os, hb.tape, hb.output, hb.size, hb.block⟩)
    have HSQ := Lib.hid (show wB.drew.heap.size = wB.heap.size from rfl)
    have HLB := Lib.hid (And.intro HLL.out.1 HLL.out.2.1)
    have HPL := Lib.hid (show d1.fields.length < 100000000 ∧ d1.states.length < 100000000 ∧ (∀ r ∈ d1.fields, r.length < 100000000) ∧ l1.length < 100000000 from ⟨HLL.out.2.2.1, HLL.out.2.2.2.1, HLL.out.2.2.2.2.1, by omega⟩)
    generalize wB.drew = wq at *
    refine flow_region (md := .any) (w0 := wq) (B := [0, 1, 3, 0, 8, 31, 63, 127, 255, 255, 255, 255, 0, 4607, 13311, 30719, 65535]) [(0, 20), (1, 21), (2, 22), (3, 23), (4, 24), (5, 25), (6, 26), (7, 19), (8, 27), (9, 28), (10, 29), (11, 30), (12, 4), (13, 3), (15, 5), (16, 6)] [14] (fun i b V w' => match i with
        | 0 => V 0 = .pointer (some ⟨pb, 0, none⟩)
        | 1 => V 1 = (v1).val d1
        | 2 => b 14 = true ∨ ∃ v2 : WV, V 2 = v2.val d1 ∧ v2.Reads w' d1
        | 3 => V 3 = .pointer (some ⟨pb, 5, none⟩)
        | 4 => V 4 = .slice A l1.length c
        | 5 => b 14 = true ∨ ∃ A2 c2, V 5 = .slice A2 l1.length c2 ∧ ActsAt w' A2 l1
        | 6 => PlayV wq.heap.size d1 l1 (V 6) w'
        | 7 => V 7 = V 6
        | 8 => V 8 = tpart 0 (V 6)
        | 9 => V 9 = tpart 1 (V 6)
        | 10 => V 10 = tpart 2 (V 6)
        | 11 => V 11 = tpart 3 (V 6)
        | 12 => ∃ g, V 12 = .pointer (some ⟨g, 0, none⟩) ∧ (b 14 = false → Blk w' g TWD zero5) ∧ wq.heap.size ≤ g
        | 13 => V 13 = tpart 0 (V 6)
        | 15 => V 15 = tpart 2 (V 6)
        | 16 => V 16 = tpart 3 (V 6)
        | 14 => ∃ g, V 12 = .pointer (some ⟨g, 0, none⟩) ∧ Blk w' g TWD (cellsW (V 9)) ∧ wq.heap.size ≤ g
        | _ => True) rfl (by kernel_rfl) (by kernel_rfl) (by kernel_rfl) (by kernel_rfl) (by kernel_rfl) (by kernel_rfl) ?_ ?_ ?_ ?_ ?_
    · intro i hi b b' V V' w' hb h hp
      simp only [List.map_cons, List.map_nil, List.cons_append, List.nil_append, List.mem_cons, List.not_mem_nil, or_false] at hi
      rcases hi with rfl | rfl | rfl | rfl | rfl | rfl | rfl | rfl | rfl | rfl | rfl | rfl | rfl | rfl | rfl | rfl | rfl
      · simp only [← h 0 (.inl rfl)]; exact hp
      · simp only [← h 1 (.inl rfl)]; exact hp
      · simp only [← h 2 (.inl rfl), ← hb 14 (by decide)]; exact hp
      · simp only [← h 3 (.inl rfl)]; exact hp
      · simp only [← h 4 (.inl rfl)]; exact hp
      · simp only [← h 5 (.inl rfl), ← hb 14 (by decide)]; exact hp
      · simp only [← h 6 (.inl rfl)]; exact hp
      · simp only [← h 7 (.inl rfl), ← h 6 (.inr (by kernel_rfl))]; exact hp
      · simp only [← h 8 (.inl rfl), ← h 6 (.inr (by kernel_rfl)), ← h 7 (.inr (by kernel_rfl))]; exact hp
      · simp only [← h 9 (.inl rfl), ← h 6 (.inr (by kernel_rfl)), ← h 7 (.inr (by kernel_rfl))]; exact hp
      · simp only [← h 10 (.inl rfl), ← h 6 (.inr (by kernel_rfl)), ← h 7 (.inr (by kernel_rfl))]; exact hp
      · simp only [← h 11 (.inl rfl), ← h 6 (.inr (by kernel_rfl)), ← h 7 (.inr (by kernel_rfl))]; exact hp
      · simp only [← h 12 (.inl rfl), ← hb 14 (by decide)]; exact hp
      · simp only [← h 13 (.inl rfl), ← h 6 (.inr (by kernel_rfl)), ← h 8 (.inr (by kernel_rfl))]; exact hp
      · simp only [← h 15 (.inl rfl), ← h 6 (.inr (by kernel_rfl)), ← h 10 (.inr (by kernel_rfl))]; exact hp
      · simp only [← h 16 (.inl rfl), ← h 6 (.inr (by kernel_rfl)), ← h 11 (.inr (by kernel_rfl))]; exact hp
      · simp only [← h 14 (.inl rfl), ← h 12 (.inr (by kernel_rfl)), ← h 9 (.inr (by kernel_rfl))]; exact hp
    · intro i hi b V w1 w2 hp hb
      simp only [List.map_cons, List.map_nil, List.cons_append, List.nil_append, List.mem_cons, List.not_mem_nil, or_false] at hi
      rcases hi with rfl | rfl | rfl | rfl | rfl | rfl | rfl | rfl | rfl | rfl | rfl | rfl | rfl | rfl | rfl | rfl | rfl
      · exact hp
      · exact hp
      · exact hp.imp id (fun ⟨v2, h1, h2⟩ => ⟨v2, h1, h2.below hb⟩)
      · exact hp
      · exact hp
      · exact hp.imp id (fun ⟨A2, c2, h1, h2⟩ => ⟨A2, c2, h1, h2.below hb⟩)
      · exact hp.below hb
      · exact hp
      · exact hp
      · exact hp
      · exact hp
      · exact hp
      · exact let ⟨g, h1, h2, h3⟩ := hp; ⟨g, h1, fun h => (Fr.of_below0 (S := fun _ => False) hb).blk (h2 h) id, h3⟩
      · exact hp
      · exact hp
      · exact hp
      · exact let ⟨g, h1, h2, h3⟩ := hp; ⟨g, h1, (Fr.of_below0 (S := fun _ => False) hb).blk h2 id, h3⟩
    · intro e he
      simp only [List.map_cons, List.map_nil, List.cons_append, List.nil_append, List.mem_cons, List.not_mem_nil, or_false] at he
      rcases he with rfl | rfl | rfl | rfl | rfl | rfl | rfl | rfl | rfl | rfl | rfl | rfl | rfl | rfl | rfl | rfl
      · intro b V a w' hoff hd ho hB
        have e1 : a.tmps[1]? = some (.pointer (some ⟨pb, 0, none⟩)) := (ho 1 (by decide)).trans rfl
        refine ⟨_, rfl, rfl, fun K hK => ?_⟩
        clear hd ho hoff
        refine value_ (w1 := w') (v := .pointer (some ⟨pb, 0, none⟩)) rfl rfl ?_ (hK.out _ _ (Below.refl _ _) (setV_self _ _ _))
        go_simp
      · intro b V a w' hoff hd ho hB
        obtain ⟨e20, p20⟩ := hd (0, 20) (by decide) (by kernel_rfl)
        rw [show V 0 = .pointer (some ⟨pb, 0, none⟩) from p20] at e20
        have hc0 := HPC0.out w' hB
        have hc1 := HPC1.out w' hB
        have hc2 := HPC2.out w' hB
        have hc3 := HPC3.out w' hB
        have hc4 := HPC4.out w' hB
        refine ⟨_, rfl, rfl, fun K hK => ?_⟩
        clear hd ho hoff
        refine value_ (w1 := w') (v := (v1).val d1) rfl rfl ?_ (hK.out _ _ (Below.refl _ _) (setV_self _ _ _))
        go_simp
      · intro b V a w' hoff hd ho hB
        have hb_ := hoff 14 (by decide) (by kernel_rfl)
        obtain ⟨e21, p21⟩ := hd (1, 21) (by decide) (by kernel_rfl)
        rw [show V 1 = (v1).val d1 from p21] at e21
        refine ⟨_, rfl, rfl, fun K hK => ?_⟩
        refine goes_ Try.func18 (by kernel_rfl) rfl #[(v1).val d1] (by rfl) rfl rfl (by simp [eval_of e21]) ?_
        refine (law_world w' v1 d1 (HVQ.out w' hB) HLB.out.1 HLB.out.2).mono ?_
        rintro e w2 ⟨v2, rfl, hrd, hbl⟩
        exact ⟨_, rfl, hK.out _ _ hbl (.inr ⟨v2, setV_self _ _ _, hrd⟩)⟩
      · intro b V a w' hoff hd ho hB
        have e1 : a.tmps[1]? = some (.pointer (some ⟨pb, 0, none⟩)) := (ho 1 (by decide)).trans rfl
        refine ⟨_, rfl, rfl, fun K hK => ?_⟩
        clear hd ho hoff
        refine value_ (w1 := w') (v := .pointer (some ⟨pb, 5, none⟩)) rfl rfl ?_ (hK.out _ _ (Below.refl _ _) (setV_self _ _ _))
        go_simp
      · intro b V a w' hoff hd ho hB
        obtain ⟨e23, p23⟩ := hd (3, 23) (by decide) (by kernel_rfl)
        rw [show V 3 = .pointer (some ⟨pb, 5, none⟩) from p23] at e23
        have hc5 := HPC5.out w' hB
        refine ⟨_, rfl, rfl, fun K hK => ?_⟩
        clear hd ho hoff
        refine value_ (w1 := w') (v := .slice A l1.length c) rfl rfl ?_ (hK.out _ _ (Below.refl _ _) (setV_self _ _ _))
        go_simp
      · intro b V a w' hoff hd ho hB
        have hb_ := hoff 14 (by decide) (by kernel_rfl)
        obtain ⟨e24, p24⟩ := hd (4, 24) (by decide) (by kernel_rfl)
        rw [show V 4 = .slice A l1.length c from p24] at e24
        refine ⟨_, rfl, rfl, fun K hK => ?_⟩
        refine goes_ Try.func19 (by kernel_rfl) rfl #[.slice A l1.length c] (by rfl) rfl rfl (by simp [eval_of e24]) ?_
        refine (law_acts' w' _ _ _ l1 rfl (HAQ.out w' hB) (by omega)).mono ?_
        rintro e w2 ⟨v2, rfl, hown, hbl⟩
        obtain ⟨A2, c2, rfl, _, hat⟩ := own_acts hown
        exact ⟨_, rfl, hK.out _ _ hbl (.inr ⟨A2, c2, setV_self _ _ _, hat⟩)⟩
      · intro b V a w' hoff hd ho hB
        have hb_ := hoff 14 (by decide) (by kernel_rfl)
        obtain ⟨e22, p22⟩ := hd (2, 22) (by decide) (by kernel_rfl)
        obtain ⟨e25, p25⟩ := hd (5, 25) (by decide) (by kernel_rfl)
        refine ⟨_, rfl, rfl, fun K hK => ?_⟩
        rcases p25 with h | ⟨A2, c2, hv2, hac⟩
        · rw [hb_] at h; cases h
        rw [hv2] at e25
        rcases p22 with h | ⟨v2, hv3, hrd⟩
        · rw [hb_] at h; cases h
        rw [hv3] at e22
        refine goes_ Try.func17 (by kernel_rfl) rfl #[v2.val d1, .slice A2 l1.length c2] (by rfl) rfl rfl (by simp [eval_of e22, eval_of e25]) ?_
        refine (rec_play w' _ d1 hrd HPL.out.1 HPL.out.2.1 HPL.out.2.2.1 A2 c2 l1 hac HPL.out.2.2.2).mono ?_
        rintro e w2 ⟨hbl, hpp⟩
        rcases hpp with ⟨h, _⟩ | ⟨_, ov, fv, iv, mv, sv, zv, kv, bs, rfl, hout⟩
        · exact absurd HPE.out h
        exact ⟨_, rfl, hK.out _ _ hbl ⟨ov, kv, fv, iv, mv, sv, zv, bs, setV_self _ _ _, play_lower hout hB.size⟩⟩
      · intro b V a w' hoff hd ho hB
        obtain ⟨e26, p26⟩ := hd (6, 26) (by decide) (by kernel_rfl)
        refine ⟨_, rfl, rfl, fun K hK => ?_⟩
        refine value_ (w1 := w') (v := V 6) rfl rfl ?_ (hK.out _ _ (Below.refl _ _) (by show setV V 7 (V 6) 7 = setV V 7 (V 6) 6; rw [setV_self, setV_ne _ _ (by decide)]))
        clear hK hd ho
        obtain ⟨ov, kv, fv, iv, mv, sv, zv, bs, e6, _⟩ := p26
        rw [e6] at e26 ⊢
        go_simp
      · intro b V a w' hoff hd ho hB
        obtain ⟨e19, p19⟩ := hd (7, 19) (by decide) (by kernel_rfl)
        have p_ := (hd (6, 26) (by decide) (by kernel_rfl)).2
        refine ⟨_, rfl, rfl, fun K hK => ?_⟩
        refine value_ (w1 := w') (v := tpart 0 (V 6)) rfl rfl ?_ (hK.out _ _ (Below.refl _ _) (by show setV V 8 _ 8 = tpart 0 (setV V 8 _ 6); rw [setV_self, setV_ne _ _ (by decide)]))
        clear hK hd ho
        obtain ⟨ov, kv, fv, iv, mv, sv, zv, bs, e6, hout⟩ := p_
        rw [p19, e6] at e19
        rw [e6]
        show (execOp a.eval _).run _ _ = .ok (.value ov) w'
        go_simp
      · intro b V a w' hoff hd ho hB
        obtain ⟨e19, p19⟩ := hd (7, 19) (by decide) (by kernel_rfl)
        have p_ := (hd (6, 26) (by decide) (by kernel_rfl)).2
        refine ⟨_, rfl, rfl, fun K hK => ?_⟩
        refine value_ (w1 := w') (v := tpart 1 (V 6)) rfl rfl ?_ (hK.out _ _ (Below.refl _ _) (by show setV V 9 _ 9 = tpart 1 (setV V 9 _ 6); rw [setV_self, setV_ne _ _ (by decide)]))
        clear hK hd ho
        obtain ⟨ov, kv, fv, iv, mv, sv, zv, bs, e6, hout⟩ := p_
        rw [p19, e6] at e19
        rw [e6]
        show (execOp a.eval _).run _ _ = .ok (.value (.agg #[fv, iv, mv, sv, zv])) w'
        go_simp
      · intro b V a w' hoff hd ho hB
        obtain ⟨e19, p19⟩ := hd (7, 19) (by decide) (by kernel_rfl)
        have p_ := (hd (6, 26) (by decide) (by kernel_rfl)).2
        refine ⟨_, rfl, rfl, fun K hK => ?_⟩
        refine value_ (w1 := w') (v := tpart 2 (V 6)) rfl rfl ?_ (hK.out _ _ (Below.refl _ _) (by show setV V 10 _ 10 = tpart 2 (setV V 10 _ 6); rw [setV_self, setV_ne _ _ (by decide)]))
        clear hK hd ho
        obtain ⟨ov, kv, fv, iv, mv, sv, zv, bs, e6, hout⟩ := p_
        rw [p19, e6] at e19
        rw [e6]
        show (execOp a.eval _).run _ _ = .ok (.value kv) w'
        go_simp
      · intro b V a w' hoff hd ho hB
        obtain ⟨e19, p19⟩ := hd (7, 19) (by decide) (by kernel_rfl)
        have p_ := (hd (6, 26) (by decide) (by kernel_rfl)).2
        refine ⟨_, rfl, rfl, fun K hK => ?_⟩
        refine value_ (w1 := w') (v := tpart 3 (V 6)) rfl rfl ?_ (hK.out _ _ (Below.refl _ _) (by show setV V 11 _ 11 = tpart 3 (setV V 11 _ 6); rw [setV_self, setV_ne _ _ (by decide)]))
        clear hK hd ho
        obtain ⟨ov, kv, fv, iv, mv, sv, zv, bs, e6, hout⟩ := p_
        rw [p19, e6] at e19
        rw [e6]
        show (execOp a.eval _).run _ _ = .ok (.value (.int .i64 0)) w'
        go_simp
      · intro b V a w' hoff hd ho hB
        have hb_ := hoff 14 (by decide) (by kernel_rfl)
        refine ⟨_, rfl, rfl, fun K hK => ?_⟩
        refine value_ (w1 := w'.alloc (.cells zero5.toArray TWD)) (v := .pointer (some ⟨w'.heap.size, 0, none⟩)) rfl rfl ?_ (hK.out _ _ ((Below.refl _ _).alloc (Nat.le_refl _) _) ⟨w'.heap.size, setV_self _ _ _, fun _ => Blk.new w' TWD zero5, hB.size⟩)
        clear hd ho hK
        go_simp
      · intro b V a w' hoff hd ho hB
        obtain ⟨e27, p27⟩ := hd (8, 27) (by decide) (by kernel_rfl)
        have p_ := (hd (6, 26) (by decide) (by kernel_rfl)).2
        refine ⟨_, rfl, rfl, fun K hK => ?_⟩
        refine value_ (w1 := w') (v := tpart 0 (V 6)) rfl rfl ?_ (hK.out _ _ (Below.refl _ _) (by show setV V 13 _ 13 = tpart 0 (setV V 13 _ 6); rw [setV_self, setV_ne _ _ (by decide)]))
        clear hK hd ho
        obtain ⟨ov, kv, fv, iv, mv, sv, zv, bs, e6, hout⟩ := p_
        rw [p27, e6] at e27
        change a.tmps[27]? = some ov at e27
        rw [e6]
        show (execOp a.eval _).run _ _ = .ok (.value ov) w'
        obtain ⟨A0, c0, x0, _, _⟩ := owns_slice hout.out
        rw [x0] at e27 ⊢
        go_simp
      · intro b V a w' hoff hd ho hB
        obtain ⟨e29, p29⟩ := hd (10, 29) (by decide) (by kernel_rfl)
        have p_ := (hd (6, 26) (by decide) (by kernel_rfl)).2
        refine ⟨_, rfl, rfl, fun K hK => ?_⟩
        refine value_ (w1 := w') (v := tpart 2 (V 6)) rfl rfl ?_ (hK.out _ _ (Below.refl _ _) (by show setV V 15 _ 15 = tpart 2 (setV V 15 _ 6); rw [setV_self, setV_ne _ _ (by decide)]))
        clear hK hd ho
        obtain ⟨ov, kv, fv, iv, mv, sv, zv, bs, e6, hout⟩ := p_
        rw [p29, e6] at e29
        change a.tmps[29]? = some kv at e29
        rw [e6]
        show (execOp a.eval _).run _ _ = .ok (.value kv) w'
        obtain ⟨A0, c0, x0, _, _⟩ := owns_slice hout.kin
        rw [x0] at e29 ⊢
        go_simp
      · intro b V a w' hoff hd ho hB
        obtain ⟨e30, p30⟩ := hd (11, 30) (by decide) (by kernel_rfl)
        have p_ := (hd (6, 26) (by decide) (by kernel_rfl)).2
        refine ⟨_, rfl, rfl, fun K hK => ?_⟩
        refine value_ (w1 := w') (v := tpart 3 (V 6)) rfl rfl ?_ (hK.out _ _ (Below.refl _ _) (by show setV V 16 _ 16 = tpart 3 (setV V 16 _ 6); rw [setV_self, setV_ne _ _ (by decide)]))
        clear hK hd ho
        obtain ⟨ov, kv, fv, iv, mv, sv, zv, bs, e6, hout⟩ := p_
        rw [p30, e6] at e30
        change a.tmps[30]? = some (.int .i64 0) at e30
        rw [e6]
        show (execOp a.eval _).run _ _ = .ok (.value (.int .i64 0)) w'
        go_simp
    · intro s hs
      simp only [List.map_cons, List.map_nil, List.cons_append, List.nil_append, List.mem_cons, List.not_mem_nil, or_false] at hs
      subst hs
      · intro b V a w' hb_ hd ho hB
        obtain ⟨e4, p4⟩ := hd (12, 4) (by decide) (by kernel_rfl)
        obtain ⟨e28, p28⟩ := hd (9, 28) (by decide) (by kernel_rfl)
        obtain ⟨e26, p26⟩ := hd (6, 26) (by decide) (by kernel_rfl)
        refine ⟨_, rfl, rfl, fun K hK => ?_⟩
        obtain ⟨g, hg, hgz0, hgl⟩ := p4
        have hgz := hgz0 hb_
        rw [hg] at e4
        have p_ := (hd (6, 26) (by decide) (by kernel_rfl)).2
        obtain ⟨ov, kv, fv, iv, mv, sv, zv, bs, e6, hout⟩ := p_
        have hx : V 9 = .agg #[fv, iv, mv, sv, zv] := by rw [p28, e6]; rfl
        rw [hx] at e28
        have hst := run_store_run (P := Try.prog) (w := w') (g := g) (o := 0) TWD (.agg #[fv, iv, mv, sv, zv]) [fv, iv, mv, sv, zv] hgz rfl wsize (by simp [zero5]) (by obtain ⟨A0, c0, x0, _, _⟩ := owns_slice hout.wld.f; obtain ⟨A1, c1, x1, _, _⟩ := owns_slice hout.wld.i; obtain ⟨A2, c2, x2, _, _⟩ := owns_slice hout.wld.m; obtain ⟨A3, c3, x3, _, _⟩ := owns_slice hout.wld.s; obtain ⟨A4, c4, x4, _, _⟩ := owns_slice hout.wld.z; rw [x0, x1, x2, x3, x4]; intro q hq; simp only [List.mem_cons, List.not_mem_nil, or_false] at hq; rcases hq with rfl | rfl | rfl | rfl | rfl <;> rfl)
        obtain ⟨hbz, hfz⟩ := res_end hgz fv iv mv sv zv _ rfl
        refine skip_ (by rfl) rfl (store_exec rfl (eval_of e4) (eval_of e28) hst) (hK.out _ (hB.trans (hfz.below hB.size (fun k hk => by rw [hk]; exact hgl))) ⟨g, hg, by rw [hx]; exact hbz, hgl⟩ (fun i hi hne hbi hp => ?_))
        simp only [List.map_cons, List.map_nil, List.cons_append, List.nil_append, List.mem_cons, List.not_mem_nil, or_false] at hi
        rcases hi with rfl | rfl | rfl | rfl | rfl | rfl | rfl | rfl | rfl | rfl | rfl | rfl | rfl | rfl | rfl | rfl | rfl
        · exact hp
        · exact hp
        · exact .inl (up_self _ _)
        · exact hp
        · exact hp
        · exact .inl (up_self _ _)
        · exact hp.store hgz (by decide) (by decide) (by decide) hfz
        · exact hp
        · exact hp
        · exact hp
        · exact hp
        · exact hp
        · obtain ⟨g2, k1, _, k3⟩ := hp; exact ⟨g2, k1, fun h => absurd ((up_self b _).symm.trans h) (by decide), k3⟩
        · exact hp
        · exact hp
        · exact hp
        · exact absurd rfl hne
    · intro b V a w' hball hfr hB hP
      have hb14 := hball 14 (by decide)
      have P0 := hP 0 (by decide)
      have P1 := hP 1 (by decide)
      have P2 := hP 2 (by decide)
      have P3 := hP 3 (by decide)
      have P4 := hP 4 (by decide)
      have P5 := hP 5 (by decide)
      have P6 := hP 6 (by decide)
      have P7 := hP 7 (by decide)
      have P8 := hP 8 (by decide)
      have P9 := hP 9 (by decide)
      have P10 := hP 10 (by decide)
      have P11 := hP 11 (by decide)
      have P12 := hP 12 (by decide)
      have P13 := hP 13 (by decide)
      have P15 := hP 15 (by decide)
      have P16 := hP 16 (by decide)
      have P14 := hP 14 (by decide)
      clear hP hball
      obtain ⟨g, hg, hgb, hgl⟩ := P14
      obtain ⟨ov, kv, fv, iv, mv, sv, zv, bs, e6, hout⟩ := P6
      have x0 : V 13 = ov := by rw [P13, e6]; rfl
      have x1 : V 9 = .agg #[fv, iv, mv, sv, zv] := by rw [P9, e6]; rfl
      have x2 : V 15 = kv := by rw [P15, e6]; rfl
      have x3 : V 16 = .int .i64 0 := by rw [P16, e6]; rfl
      rw [x1] at hgb
      have HK := Lib.hid (show Left1 wB pb (caseC v1 d1 A c l1.length N M) g wq.heap.size d1 l1 ov fv iv mv sv zv kv bs w' from ⟨HBQ.out _ hB, (Fr.of_below0 (S := fun _ => False) (HBQ.out _ hB)).blk HPB2.out id, hgb, hout, by rw [HSQ.out]; exact Nat.le_refl _⟩)
      subst hfr
      simp only [vrows, List.map_cons, List.map_nil, putSel, if_true, Act.put, List.setIfInBounds_toArray, List.set_cons_zero, List.set_cons_succ]
      rw [hg, x0, x2, x3]
      clear P0 P1 P2 P3 P4 P5 P7 P8 P9 P10 P11 P12 P13 P15 P16 x0 x1 x2 x3 hg hgb hgl hB HBQ HSQ HVQ HAQ HPC0 HPC1 HPC2 HPC3 HPC4 HPC5 HPB2 HLB HPL e6 hout
      have hc5 : w'.cell? ⟨pb, 5, none⟩ = some (.slice A l1.length c) := HK.out.par.cell 5
      have hc2 : w'.cell? ⟨pb, 6, none⟩ = some (.int .i64 N) := HK.out.par.cell 6
      go_upto_if 56 with (fail)
      go_cut [7] (fun k7 wc => ∃ kk : Nat, (kk < l1.length ∨ (kk = 0 ∧ l1.length = 0)) ∧ k7 = .int .i64 kk ∧ Left1 wB pb (caseC v1 d1 A c l1.length N M) g wq.heap.size d1 l1 ov fv iv mv sv zv kv bs wc)
      case first =>
        obtain ⟨hN1, hN2⟩ := hN
        by_cases hl0 : 0 < l1.length
        · go_wp2
          go_quiet (fail)
          go_wp2
          go_meet
          case rel =>
            obtain ⟨kk, h1, h2⟩ := k_of N l1.length hl0 hl1
            exact ⟨kk, .inl h1, by rw [h2], HK.out.below (pw_below_drewN (Below.refl _ _) _)⟩
        · go_wp2
          go_meet
          case rel => exact ⟨0, .inr ⟨rfl, by omega⟩, rfl, HK.out⟩
      case rest =>
        clear HK hc5 hc2 hN
        obtain ⟨kk, hkk, rfl, hk⟩ := hcut
        have HK := Lib.hid hk
        have hkl : kk ≤ l1.length := by omega
        have hkc : kk ≤ c := by omega
        have HKK := Lib.hid hkk
        clear hk hkk
        go_wp2_with fail
        refine start_ (n := 19) (S := fun _ => True) (ds := []) #[false, false, false, false, false, false, false, false, false, false, false, false, false, false, false, false, false, false, false] (by kernel_rfl) rfl rfl trivial (fun _ => ?_)
        have HPC0 := Lib.hid (fun w' (hb : Below wc.drew.heap.size wc.drew w') => pw_cell_below (w := wc.drew) hb (HK.out.par.cell 0))
        have HPC1 := Lib.hid (fun w' (hb : Below wc.drew.heap.size wc.drew w') => pw_cell_below (w := wc.drew) hb (HK.out.par.cell 1))
        have HPC2 := Lib.hid (fun w' (hb : Below wc.drew.heap.size wc.drew w') => pw_cell_below (w := wc.drew) hb (HK.out.par.cell 2))
        have HPC3 := Lib.hid (fun w' (hb : Below wc.drew.heap.size wc.drew w') => pw_cell_below (w := wc.drew) hb (HK.out.par.cell 3))
        have HPC4 := Lib.hid (fun w' (hb : Below wc.drew.heap.size wc.drew w') => pw_cell_below (w := wc.drew) hb (HK.out.par.cell 4))
        have HPC5 := Lib.hid (fun w' (hb : Below wc.drew.heap.size wc.drew w') => pw_cell_below (w := wc.drew) hb (HK.out.par.cell 5))
        have HBQ := Lib.hid (show ∀ w', Below wc.drew.heap.size wc.drew w' → Below wc.heap.size wc w' from fun _ hb => ⟨hb.os, hb.tape, hb.output, hb.size, hb.block⟩)
        have HVQ := Lib.hid (fun w' (hb : Below wc.drew.heap.size wc.drew w') => HVB.out w' (HK.out.old.trans ((HBQ.out w' hb).mono HK.out.old.size)))
        have HAQ0 := Lib.hid (fun w' (hb : Below wc.drew.heap.size wc.drew w') => HA.out w' (HBB.out.trans ((HK.out.old.trans ((HBQ.out w' hb).mono HK.out.old.size)).mono HBB.out.size)))
        have HSQ := Lib.hid (show wc.drew.heap.size = wc.heap.size from rfl)
        have HLB := Lib.hid (And.intro HLL.out.1 HLL.out.2.1)
        have HGD := Lib.hid (Good.of HPE.out)
        clear HPE
        have HPE := Lib.hid ((HGD.out.take kk).play)
        have HAQ := Lib.hid (fun w' (hb : Below wc.drew.heap.size wc.drew w') => acts_take (HAQ0.out w' hb) kk)
        have HPL := Lib.hid (show d1.fields.length < 100000000 ∧ d1.states.length < 100000000 ∧ (∀ r ∈ d1.fields, r.length < 100000000) ∧ (l1.take kk).length < 100000000 from ⟨HLL.out.2.2.1, HLL.out.2.2.2.1, HLL.out.2.2.2.2.1, by simp; omega⟩)
        generalize wc.drew = wq2 at *
        refine flow_region (md := .any) (w0 := wq2) (B := [0, 1, 3, 0, 8, 0, 56, 127, 255, 511, 1023, 1023, 1023, 1023, 0, 18431, 53247, 122879, 262143]) [(0, 72), (1, 73), (2, 74), (3, 75), (4, 76), (5, 77), (6, 78), (7, 79), (8, 80), (9, 71), (10, 81), (11, 82), (12, 83), (13, 84), (14, 9), (15, 8), (17, 10), (18, 6)] [16] (fun i b V w' => match i with
            | 0 => V 0 = .pointer (some ⟨pb, 0, none⟩)
            | 1 => V 1 = (v1).val d1
            | 2 => b 16 = true ∨ ∃ v2 : WV, V 2 = v2.val d1 ∧ v2.Reads w' d1
            | 3 => V 3 = .pointer (some ⟨pb, 5, none⟩)
            | 4 => V 4 = .slice A l1.length c
            | 5 => V 5 = .int .i64 kk
            | 6 => V 6 = .slice A kk c
            | 7 => b 16 = true ∨ ∃ A2 c2, V 7 = .slice A2 (l1.take kk).length c2 ∧ ActsAt w' A2 (l1.take kk)
            | 8 => PlayV wq2.heap.size d1 (l1.take kk) (V 8) w'
            | 9 => V 9 = V 8
            | 10 => V 10 = tpart 0 (V 8)
            | 11 => V 11 = tpart 1 (V 8)
            | 12 => V 12 = tpart 2 (V 8)
            | 13 => V 13 = tpart 3 (V 8)
            | 14 => ∃ g, V 14 = .pointer (some ⟨g, 0, none⟩) ∧ (b 16 = false → Blk w' g TWD zero5) ∧ wq2.heap.size ≤ g
            | 15 => V 15 = tpart 0 (V 8)
            | 17 => V 17 = tpart 2 (V 8)
            | 18 => V 18 = tpart 3 (V 8)
            | 16 => ∃ g, V 14 = .pointer (some ⟨g, 0, none⟩) ∧ Blk w' g TWD (cellsW (V 11)) ∧ wq2.heap.size ≤ g
            | _ => True) rfl (by kernel_rfl) (by kernel_rfl) (by kernel_rfl) (by kernel_rfl) (by kernel_rfl) (by kernel_rfl) ?_ ?_ ?_ ?_ ?_
        · intro i hi b b' V V' w' hb h hp
          simp only [List.map_cons, List.map_nil, List.cons_append, List.nil_append, List.mem_cons, List.not_mem_nil, or_false] at hi
          rcases hi with rfl | rfl | rfl | rfl | rfl | rfl | rfl | rfl | rfl | rfl | rfl | rfl | rfl | rfl | rfl | rfl | rfl | rfl | rfl
          · simp only [← h 0 (.inl rfl)]; exact hp
          · simp only [← h 1 (.inl rfl)]; exact hp
          · simp only [← h 2 (.inl rfl), ← hb 16 (by decide)]; exact hp
          · simp only [← h 3 (.inl rfl)]; exact hp
          · simp only [← h 4 (.inl rfl)]; exact hp
          · simp only [← h 5 (.inl rfl)]; exact hp
          · simp only [← h 6 (.inl rfl)]; exact hp
          · simp only [← h 7 (.inl rfl), ← hb 16 (by decide)]; exact hp
          · simp only [← h 8 (.inl rfl)]; exact hp
          · simp only [← h 9 (.inl rfl), ← h 8 (.inr (by kernel_rfl))]; exact hp
          · simp only [← h 10 (.inl rfl), ← h 8 (.inr (by kernel_rfl)), ← h 9 (.inr (by kernel_rfl))]; exact hp
          · simp only [← h 11 (.inl rfl), ← h 8 (.inr (by kernel_rfl)), ← h 9 (.inr (by kernel_rfl))]; exact hp
          · simp only [← h 12 (.inl rfl), ← h 8 (.inr (by kernel_rfl)), ← h 9 (.inr (by kernel_rfl))]; exact hp
          · simp only [← h 13 (.inl rfl), ← h 8 (.inr (by kernel_rfl)), ← h 9 (.inr (by kernel_rfl))]; exact hp
          · simp only [← h 14 (.inl rfl), ← hb 16 (by decide)]; exact hp
          · simp only [← h 15 (.inl rfl), ← h 8 (.inr (by kernel_rfl)), ← h 10 (.inr (by kernel_rfl))]; exact hp
          · simp only [← h 17 (.inl rfl), ← h 8 (.inr (by kernel_rfl)), ← h 12 (.inr (by kernel_rfl))]; exact hp
          · simp only [← h 18 (.inl rfl), ← h 8 (.inr (by kernel_rfl)), ← h 13 (.inr (by kernel_rfl))]; exact hp
          · simp only [← h 16 (.inl rfl), ← h 14 (.inr (by kernel_rfl)), ← h 11 (.inr (by kernel_rfl))]; exact hp
        · intro i hi b V w1 w2 hp hb
          simp only [List.map_cons, List.map_nil, List.cons_append, List.nil_append, List.mem_cons, List.not_mem_nil, or_false] at hi
          rcases hi with rfl | rfl | rfl | rfl | rfl | rfl | rfl | rfl | rfl | rfl | rfl | rfl | rfl | rfl | rfl | rfl | rfl | rfl | rfl
          · exact hp
          · exact hp
          · exact hp.imp id (fun ⟨v2, h1, h2⟩ => ⟨v2, h1, h2.below hb⟩)
          · exact hp
          · exact hp
          · exact hp
          · exact hp
          · exact hp.imp id (fun ⟨A2, c2, h1, h2⟩ => ⟨A2, c2, h1, h2.below hb⟩)
          · exact hp.below hb
          · exact hp
          · exact hp
          · exact hp
          · exact hp
          · exact hp
          · exact let ⟨g, h1, h2, h3⟩ := hp; ⟨g, h1, fun h => (Fr.of_below0 (S := fun _ => False) hb).blk (h2 h) id, h3⟩
          · exact hp
          · exact hp
          · exact hp
          · exact let ⟨g, h1, h2, h3⟩ := hp; ⟨g, h1, (Fr.of_below0 (S := fun _ => False) hb).blk h2 id, h3⟩
        · intro e he
          simp only [List.map_cons, List.map_nil, List.cons_append, List.nil_append, List.mem_cons, List.not_mem_nil, or_false] at he
          rcases he with rfl | rfl | rfl | rfl | rfl | rfl | rfl | rfl | rfl | rfl | rfl | rfl | rfl | rfl | rfl | rfl | rfl | rfl
          · intro b V a w' hoff hd ho hB
            have e1 : a.tmps[1]? = some (.pointer (some ⟨pb, 0, none⟩)) := (ho 1 (by decide)).trans rfl
            refine ⟨_, rfl, rfl, fun K hK => ?_⟩
            clear hd ho hoff
            refine value_ (w1 := w') (v := .pointer (some ⟨pb, 0, none⟩)) rfl rfl ?_ (hK.out _ _ (Below.refl _ _) (setV_self _ _ _))
            go_simp
          · intro b V a w' hoff hd ho hB
            obtain ⟨e72, p72⟩ := hd (0, 72) (by decide) (by kernel_rfl)
            rw [show V 0 = .pointer (some ⟨pb, 0, none⟩) from p72] at e72
            have hc0 := HPC0.out w' hB
            have hc1 := HPC1.out w' hB
            have hc2 := HPC2.out w' hB
            have hc3 := HPC3.out w' hB
            have hc4 := HPC4.out w' hB
            refine ⟨_, rfl, rfl, fun K hK => ?_⟩
            clear hd ho hoff
            refine value_ (w1 := w') (v := (v1).val d1) rfl rfl ?_ (hK.out _ _ (Below.refl _ _) (setV_self _ _ _))
            go_simp
          · intro b V a w' hoff hd ho hB
            have hb_ := hoff 16 (by decide) (by kernel_rfl)
            obtain ⟨e73, p73⟩ := hd (1, 73) (by decide) (by kernel_rfl)
            rw [show V 1 = (v1).val d1 from p73] at e73
            refine ⟨_, rfl, rfl, fun K hK => ?_⟩
            refine goes_ Try.func18 (by kernel_rfl) rfl #[(v1).val d1] (by rfl) rfl rfl (by simp [eval_of e73]) ?_
            refine (law_world w' v1 d1 (HVQ.out w' hB) HLB.out.1 HLB.out.2).mono ?_
            rintro e w2 ⟨v2, rfl, hrd, hbl⟩
            exact ⟨_, rfl, hK.out _ _ hbl (.inr ⟨v2, setV_self _ _ _, hrd⟩)⟩
          · intro b V a w' hoff hd ho hB
            have e1 : a.tmps[1]? = some (.pointer (some ⟨pb, 0, none⟩)) := (ho 1 (by decide)).trans rfl
            refine ⟨_, rfl, rfl, fun K hK => ?_⟩
            clear hd ho hoff
            refine value_ (w1 := w') (v := .pointer (some ⟨pb, 5, none⟩)) rfl rfl ?_ (hK.out _ _ (Below.refl _ _) (setV_self _ _ _))
            go_simp
          · intro b V a w' hoff hd ho hB
            obtain ⟨e75, p75⟩ := hd (3, 75) (by decide) (by kernel_rfl)
            rw [show V 3 = .pointer (some ⟨pb, 5, none⟩) from p75] at e75
            have hc5 := HPC5.out w' hB
            refine ⟨_, rfl, rfl, fun K hK => ?_⟩
            clear hd ho hoff
            refine value_ (w1 := w') (v := .slice A l1.length c) rfl rfl ?_ (hK.out _ _ (Below.refl _ _) (setV_self _ _ _))
            go_simp
          · intro b V a w' hoff hd ho hB
            have e7 : a.tmps[7]? = some (.int .i64 kk) := (ho 7 (by decide)).trans rfl
            refine ⟨_, rfl, rfl, fun K hK => ?_⟩
            clear hd ho hoff
            refine value_ (w1 := w') (v := .int .i64 kk) rfl rfl ?_ (hK.out _ _ (Below.refl _ _) (setV_self _ _ _))
            go_simp
          · intro b V a w' hoff hd ho hB
            obtain ⟨e76, p76⟩ := hd (4, 76) (by decide) (by kernel_rfl)
            rw [show V 4 = .slice A l1.length c from p76] at e76
            obtain ⟨e77, p77⟩ := hd (5, 77) (by decide) (by kernel_rfl)
            rw [show V 5 = .int .i64 kk from p77] at e77
            refine ⟨_, rfl, rfl, fun K hK => ?_⟩
            clear hd ho hoff
            refine value_ (w1 := w') (v := .slice A kk c) rfl rfl ?_ (hK.out _ _ (Below.refl _ _) (setV_self _ _ _))
            go_simp
          · intro b V a w' hoff hd ho hB
            have hb_ := hoff 16 (by decide) (by kernel_rfl)
            obtain ⟨e78, p78⟩ := hd (6, 78) (by decide) (by kernel_rfl)
            rw [show V 6 = .slice A kk c from p78] at e78
            refine ⟨_, rfl, rfl, fun K hK => ?_⟩
            refine goes_ Try.func19 (by kernel_rfl) rfl #[.slice A kk c] (by rfl) rfl rfl (by simp [eval_of e78]) ?_
            refine (law_acts' w' _ _ _ (l1.take kk) (by simp; omega) (HAQ.out w' hB) (by simp; omega)).mono ?_
            rintro e w2 ⟨v2, rfl, hown, hbl⟩
            obtain ⟨A2, c2, rfl, _, hat⟩ := own_acts hown
            exact ⟨_, rfl, hK.out _ _ hbl (.inr ⟨A2, c2, setV_self _ _ _, hat⟩)⟩
          · intro b V a w' hoff hd ho hB
            have hb_ := hoff 16 (by decide) (by kernel_rfl)
            obtain ⟨e74, p74⟩ := hd (2, 74) (by decide) (by kernel_rfl)
            obtain ⟨e79, p79⟩ := hd (7, 79) (by decide) (by kernel_rfl)
            refine ⟨_, rfl, rfl, fun K hK => ?_⟩
            rcases p79 with h | ⟨A2, c2, hv2, hac⟩
            · rw [hb_] at h; cases h
            rw [hv2] at e79
            rcases p74 with h | ⟨v2, hv3, hrd⟩
            · rw [hb_] at h; cases h
            rw [hv3] at e74
            refine goes_ Try.func17 (by kernel_rfl) rfl #[v2.val d1, .slice A2 (l1.take kk).length c2] (by rfl) rfl rfl (by simp [eval_of e74, eval_of e79]) ?_
            refine (rec_play w' _ d1 hrd HPL.out.1 HPL.out.2.1 HPL.out.2.2.1 A2 c2 (l1.take kk) hac HPL.out.2.2.2).mono ?_
            rintro e w2 ⟨hbl, hpp⟩
            rcases hpp with ⟨h, _⟩ | ⟨_, ov, fv, iv, mv, sv, zv, kv, bs, rfl, hout⟩
            · exact absurd HPE.out h
            exact ⟨_, rfl, hK.out _ _ hbl ⟨ov, kv, fv, iv, mv, sv, zv, bs, setV_self _ _ _, play_lower hout hB.size⟩⟩
          · intro b V a w' hoff hd ho hB
            obtain ⟨e80, p80⟩ := hd (8, 80) (by decide) (by kernel_rfl)
            refine ⟨_, rfl, rfl, fun K hK => ?_⟩
            refine value_ (w1 := w') (v := V 8) rfl rfl ?_ (hK.out _ _ (Below.refl _ _) (by show setV V 9 (V 8) 9 = setV V 9 (V 8) 8; rw [setV_self, setV_ne _ _ (by decide)]))
            clear hK hd ho
            obtain ⟨ov, kv, fv, iv, mv, sv, zv, bs, e6, _⟩ := p80
            rw [e6] at e80 ⊢
            go_simp
          · intro b V a w' hoff hd ho hB
            obtain ⟨e71, p71⟩ := hd (9, 71) (by decide) (by kernel_rfl)
            have p_ := (hd (8, 80) (by decide) (by kernel_rfl)).2
            refine ⟨_, rfl, rfl, fun K hK => ?_⟩
            refine value_ (w1 := w') (v := tpart 0 (V 8)) rfl rfl ?_ (hK.out _ _ (Below.refl _ _) (by show setV V 10 _ 10 = tpart 0 (setV V 10 _ 8); rw [setV_self, setV_ne _ _ (by decide)]))
            clear hK hd ho
            obtain ⟨ov, kv, fv, iv, mv, sv, zv, bs, e6, hout⟩ := p_
            rw [p71, e6] at e71
            rw [e6]
            show (execOp a.eval _).run _ _ = .ok (.value ov) w'
            go_simp
          · intro b V a w' hoff hd ho hB
            obtain ⟨e71, p71⟩ := hd (9, 71) (by decide) (by kernel_rfl)
            have p_ := (hd (8, 80) (by decide) (by kernel_rfl)).2
            refine ⟨_, rfl, rfl, fun K hK => ?_⟩
            refine value_ (w1 := w') (v := tpart 1 (V 8)) rfl rfl ?_ (hK.out _ _ (Below.refl _ _) (by show setV V 11 _ 11 = tpart 1 (setV V 11 _ 8); rw [setV_self, setV_ne _ _ (by decide)]))
            clear hK hd ho
            obtain ⟨ov, kv, fv, iv, mv, sv, zv, bs, e6, hout⟩ := p_
            rw [p71, e6] at e71
            rw [e6]
            show (execOp a.eval _).run _ _ = .ok (.value (.agg #[fv, iv, mv, sv, zv])) w'
            go_simp
          · intro b V a w' hoff hd ho hB
            obtain ⟨e71, p71⟩ := hd (9, 71) (by decide) (by kernel_rfl)
            have p_ := (hd (8, 80) (by decide) (by kernel_rfl)).2
            refine ⟨_, rfl, rfl, fun K hK => ?_⟩
            refine value_ (w1 := w') (v := tpart 2 (V 8)) rfl rfl ?_ (hK.out _ _ (Below.refl _ _) (by show setV V 12 _ 12 = tpart 2 (setV V 12 _ 8); rw [setV_self, setV_ne _ _ (by decide)]))
            clear hK hd ho
            obtain ⟨ov, kv, fv, iv, mv, sv, zv, bs, e6, hout⟩ := p_
            rw [p71, e6] at e71
            rw [e6]
            show (execOp a.eval _).run _ _ = .ok (.value kv) w'
            go_simp
          · intro b V a w' hoff hd ho hB
            obtain ⟨e71, p71⟩ := hd (9, 71) (by decide) (by kernel_rfl)
            have p_ := (hd (8, 80) (by decide) (by kernel_rfl)).2
            refine ⟨_, rfl, rfl, fun K hK => ?_⟩
            refine value_ (w1 := w') (v := tpart 3 (V 8)) rfl rfl ?_ (hK.out _ _ (Below.refl _ _) (by show setV V 13 _ 13 = tpart 3 (setV V 13 _ 8); rw [setV_self, setV_ne _ _ (by decide)]))
            clear hK hd ho
            obtain ⟨ov, kv, fv, iv, mv, sv, zv, bs, e6, hout⟩ := p_
            rw [p71, e6] at e71
            rw [e6]
            show (execOp a.eval _).run _ _ = .ok (.value (.int .i64 0)) w'
            go_simp
          · intro b V a w' hoff hd ho hB
            have hb_ := hoff 16 (by decide) (by kernel_rfl)
            refine ⟨_, rfl, rfl, fun K hK => ?_⟩
            refine value_ (w1 := w'.alloc (.cells zero5.toArray TWD)) (v := .pointer (some ⟨w'.heap.size, 0, none⟩)) rfl rfl ?_ (hK.out _ _ ((Below.refl _ _).alloc (Nat.le_refl _) _) ⟨w'.heap.size, setV_self _ _ _, fun _ => Blk.new w' TWD zero5, hB.size⟩)
            clear hd ho hK
            go_simp
          · intro b V a w' hoff hd ho hB
            obtain ⟨e81, p81⟩ := hd (10, 81) (by decide) (by kernel_rfl)
            have p_ := (hd (8, 80) (by decide) (by kernel_rfl)).2
            refine ⟨_, rfl, rfl, fun K hK => ?_⟩
            refine value_ (w1 := w') (v := tpart 0 (V 8)) rfl rfl ?_ (hK.out _ _ (Below.refl _ _) (by show setV V 15 _ 15 = tpart 0 (setV V 15 _ 8); rw [setV_self, setV_ne _ _ (by decide)]))
            clear hK hd ho
            obtain ⟨ov, kv, fv, iv, mv, sv, zv, bs, e6, hout⟩ := p_
            rw [p81, e6] at e81
            change a.tmps[81]? = some ov at e81
            rw [e6]
            show (execOp a.eval _).run _ _ = .ok (.value ov) w'
            obtain ⟨A0, c0, x0, _, _⟩ := owns_slice hout.out
            rw [x0] at e81 ⊢
            go_simp
          · intro b V a w' hoff hd ho hB
            obtain ⟨e83, p83⟩ := hd (12, 83) (by decide) (by kernel_rfl)
            have p_ := (hd (8, 80) (by decide) (by kernel_rfl)).2
            refine ⟨_, rfl, rfl, fun K hK => ?_⟩
            refine value_ (w1 := w') (v := tpart 2 (V 8)) rfl rfl ?_ (hK.out _ _ (Below.refl _ _) (by show setV V 17 _ 17 = tpart 2 (setV V 17 _ 8); rw [setV_self, setV_ne _ _ (by decide)]))
            clear hK hd ho
            obtain ⟨ov, kv, fv, iv, mv, sv, zv, bs, e6, hout⟩ := p_
            rw [p83, e6] at e83
            change a.tmps[83]? = some kv at e83
            rw [e6]
            show (execOp a.eval _).run _ _ = .ok (.value kv) w'
            obtain ⟨A0, c0, x0, _, _⟩ := owns_slice hout.kin
            rw [x0] at e83 ⊢
            go_simp
          · intro b V a w' hoff hd ho hB
            obtain ⟨e84, p84⟩ := hd (13, 84) (by decide) (by kernel_rfl)
            have p_ := (hd (8, 80) (by decide) (by kernel_rfl)).2
            refine ⟨_, rfl, rfl, fun K hK => ?_⟩
            refine value_ (w1 := w') (v := tpart 3 (V 8)) rfl rfl ?_ (hK.out _ _ (Below.refl _ _) (by show setV V 18 _ 18 = tpart 3 (setV V 18 _ 8); rw [setV_self, setV_ne _ _ (by decide)]))
            clear hK hd ho
            obtain ⟨ov, kv, fv, iv, mv, sv, zv, bs, e6, hout⟩ := p_
            rw [p84, e6] at e84
            change a.tmps[84]? = some (.int .i64 0) at e84
            rw [e6]
            show (execOp a.eval _).run _ _ = .ok (.value (.int .i64 0)) w'
            go_simp
        · intro s hs
          simp only [List.map_cons, List.map_nil, List.cons_append, List.nil_append, List.mem_cons, List.not_mem_nil, or_false] at hs
          subst hs
          · intro b V a w' hb_ hd ho hB
            obtain ⟨e9, p9⟩ := hd (14, 9) (by decide) (by kernel_rfl)
            obtain ⟨e82, p82⟩ := hd (11, 82) (by decide) (by kernel_rfl)
            obtain ⟨e80, p80⟩ := hd (8, 80) (by decide) (by kernel_rfl)
            refine ⟨_, rfl, rfl, fun K hK => ?_⟩
            obtain ⟨g, hg, hgz0, hgl⟩ := p9
            have hgz := hgz0 hb_
            rw [hg] at e9
            have p_ := (hd (8, 80) (by decide) (by kernel_rfl)).2
            obtain ⟨ov, kv, fv, iv, mv, sv, zv, bs, e6, hout⟩ := p_
            have hx : V 11 = .agg #[fv, iv, mv, sv, zv] := by rw [p82, e6]; rfl
            rw [hx] at e82
            have hst := run_store_run (P := Try.prog) (w := w') (g := g) (o := 0) TWD (.agg #[fv, iv, mv, sv, zv]) [fv, iv, mv, sv, zv] hgz rfl wsize (by simp [zero5]) (by obtain ⟨A0, c0, x0, _, _⟩ := owns_slice hout.wld.f; obtain ⟨A1, c1, x1, _, _⟩ := owns_slice hout.wld.i; obtain ⟨A2, c2, x2, _, _⟩ := owns_slice hout.wld.m; obtain ⟨A3, c3, x3, _, _⟩ := owns_slice hout.wld.s; obtain ⟨A4, c4, x4, _, _⟩ := owns_slice hout.wld.z; rw [x0, x1, x2, x3, x4]; intro q hq; simp only [List.mem_cons, List.not_mem_nil, or_false] at hq; rcases hq with rfl | rfl | rfl | rfl | rfl <;> rfl)
            obtain ⟨hbz, hfz⟩ := res_end hgz fv iv mv sv zv _ rfl
            refine skip_ (by rfl) rfl (store_exec rfl (eval_of e9) (eval_of e82) hst) (hK.out _ (hB.trans (hfz.below hB.size (fun k hk => by rw [hk]; exact hgl))) ⟨g, hg, by rw [hx]; exact hbz, hgl⟩ (fun i hi hne hbi hp => ?_))
            simp only [List.map_cons, List.map_nil, List.cons_append, List.nil_append, List.mem_cons, List.not_mem_nil, or_false] at hi
            rcases hi with rfl | rfl | rfl | rfl | rfl | rfl | rfl | rfl | rfl | rfl | rfl | rfl | rfl | rfl | rfl | rfl | rfl | rfl | rfl
            · exact hp
            · exact hp
            · exact .inl (up_self _ _)
            · exact hp
            · exact hp
            · exact hp
            · exact hp
            · exact .inl (up_self _ _)
            · exact hp.store hgz (by decide) (by decide) (by decide) hfz
            · exact hp
            · exact hp
            · exact hp
            · exact hp
            · exact hp
            · obtain ⟨g2, k1, _, k3⟩ := hp; exact ⟨g2, k1, fun h => absurd ((up_self b _).symm.trans h) (by decide), k3⟩
            · exact hp
            · exact hp
            · exact hp
            · exact absurd rfl hne
        · intro b V a w' hball hfr hB hP
          have hb16 := hball 16 (by decide)
          have P0 := hP 0 (by decide)
          have P1 := hP 1 (by decide)
          have P2 := hP 2 (by decide)
          have P3 := hP 3 (by decide)
          have P4 := hP 4 (by decide)
          have P5 := hP 5 (by decide)
          have P6 := hP 6 (by decide)
          have P7 := hP 7 (by decide)
          have P8 := hP 8 (by decide)
          have P9 := hP 9 (by decide)
          have P10 := hP 10 (by decide)
          have P11 := hP 11 (by decide)
          have P12 := hP 12 (by decide)
          have P13 := hP 13 (by decide)
          have P14 := hP 14 (by decide)
          have P15 := hP 15 (by decide)
          have P17 := hP 17 (by decide)
          have P18 := hP 18 (by decide)
          have P16 := hP 16 (by decide)
          clear hP hball
          obtain ⟨g2, hg, hgb, hgl⟩ := P16
          obtain ⟨ov2, kv2, fv2, iv2, mv2, sv2, zv2, bs2, e6, hout⟩ := P8
          have x0 : V 15 = ov2 := by rw [P15, e6]; rfl
          have x1 : V 11 = .agg #[fv2, iv2, mv2, sv2, zv2] := by rw [P11, e6]; rfl
          have x2 : V 17 = kv2 := by rw [P17, e6]; rfl
          have x3 : V 18 = .int .i64 0 := by rw [P18, e6]; rfl
          rw [x1] at hgb
          have hbr := HBQ.out _ hB
          have HM2 := Lib.hid (show Left1 wB pb (caseC v1 d1 A c l1.length N M) g2 wq2.heap.size d1 (l1.take kk) ov2 fv2 iv2 mv2 sv2 zv2 kv2 bs2 w' from ⟨HK.out.old.trans (hbr.mono HK.out.old.size), (Fr.of_below0 (S := fun _ => False) hbr).blk HK.out.par id, hgb, hout, by rw [HSQ.out]; exact HK.out.old.size⟩)
          have HK2 := Lib.hid (HK.out.below hbr)
          subst hfr
          simp only [vrows, List.map_cons, List.map_nil, putSel, if_true, Act.put, List.setIfInBounds_toArray, List.set_cons_zero, List.set_cons_succ]
          rw [hg, x0, x2, x3]
          clear P0 P1 P2 P3 P4 P5 P6 P7 P9 P10 P11 P12 P13 P14 P15 P17 P18 x0 x1 x2 x3 hg hgb hgl hB hbr HBQ HSQ HVQ HAQ HAQ0 HPC0 HPC1 HPC2 HPC3 HPC4 HPC5 HLB HPL HPE e6 hout
          clear HK
          go_wp2_with fail
          refine start_ (n := 17) (S := fun _ => True) (ds := []) #[false, false, false, false, false, false, false, false, false, false, false, false, false, false, false, false, false] (by kernel_rfl) rfl rfl trivial (fun _ => ?_)
          obtain ⟨wd, rfl⟩ : ∃ x : World, x = w' := ⟨_, rfl⟩
          obtain ⟨vm, rfl, rfl, rfl, rfl, rfl, hrm⟩ := HM2.out.out.wld.reads
          have HPC0 := Lib.hid (fun w' (hb : Below wd.drew.heap.size wd.drew w') => pw_cell_below (w := wd.drew) hb (HK2.out.par.cell 0))
          have HPC1 := Lib.hid (fun w' (hb : Below wd.drew.heap.size wd.drew w') => pw_cell_below (w := wd.drew) hb (HK2.out.par.cell 1))
          have HPC2 := Lib.hid (fun w' (hb : Below wd.drew.heap.size wd.drew w') => pw_cell_below (w := wd.drew) hb (HK2.out.par.cell 2))
          have HPC3 := Lib.hid (fun w' (hb : Below wd.drew.heap.size wd.drew w') => pw_cell_below (w := wd.drew) hb (HK2.out.par.cell 3))
          have HPC4 := Lib.hid (fun w' (hb : Below wd.drew.heap.size wd.drew w') => pw_cell_below (w := wd.drew) hb (HK2.out.par.cell 4))
          have HPC5 := Lib.hid (fun w' (hb : Below wd.drew.heap.size wd.drew w') => pw_cell_below (w := wd.drew) hb (HK2.out.par.cell 5))
          have HBQ := Lib.hid (show ∀ w', Below wd.drew.heap.size wd.drew w' → Below wd.heap.size wd w' from fun _ hb => ⟨hb.os, hb.tape, hb.output, hb.size, hb.block⟩)
          have HVQ := Lib.hid (fun w' (hb : Below wd.drew.heap.size wd.drew w') => HVB.out w' (HK2.out.old.trans ((HBQ.out w' hb).mono HK2.out.old.size)))
          have HAQ0 := Lib.hid (fun w' (hb : Below wd.drew.heap.size wd.drew w') => HA.out w' (HBB.out.trans ((HK2.out.old.trans ((HBQ.out w' hb).mono HK2.out.old.size)).mono HBB.out.size)))
          have HSQ := Lib.hid (show wd.drew.heap.size = wd.heap.size from rfl)
          have HLB := Lib.hid (And.intro HLL.out.1 HLL.out.2.1)
          have HWC0 := Lib.hid (fun w'' (hb : Below wd.drew.heap.size wd.drew w'') => pw_cell_below (w := wd.drew) hb (HM2.out.box.cell 0))
          have HWC1 := Lib.hid (fun w'' (hb : Below wd.drew.heap.size wd.drew w'') => pw_cell_below (w := wd.drew) hb (HM2.out.box.cell 1))
          have HWC2 := Lib.hid (fun w'' (hb : Below wd.drew.heap.size wd.drew w'') => pw_cell_below (w := wd.drew) hb (HM2.out.box.cell 2))
          have HWC3 := Lib.hid (fun w'' (hb : Below wd.drew.heap.size wd.drew w'') => pw_cell_below (w := wd.drew) hb (HM2.out.box.cell 3))
          have HWC4 := Lib.hid (fun w'' (hb : Below wd.drew.heap.size wd.drew w'') => pw_cell_below (w := wd.drew) hb (HM2.out.box.cell 4))
          have HWQ := Lib.hid (fun w'' (hb : Below wd.drew.heap.size wd.drew w'') => hrm.below (HBQ.out w'' hb))
          clear hrm
          obtain ⟨A3, hA3⟩ : ∃ A3, A3 = (if c = kk then A else A.map (fun a => a.add (kk * 5))) := ⟨_, rfl⟩
          have HA3 := Lib.hid hA3
          have HAQ := Lib.hid (show ∀ w'', Below wd.drew.heap.size wd.drew w'' → ActsAt w'' A3 (l1.drop kk) from fun w'' hb => by rw [HA3.out]; exact acts_drop (HAQ0.out w'' hb) kk c hlc1)
          clear hA3
          have HSH := Lib.hid (runD_form HGD.out.Form (l1.take kk) (fun x hx => HGD.out.fits x (List.mem_of_mem_take hx)))
          have HPE := Lib.hid ((HGD.out.drop kk).play)
          have HPL := Lib.hid (show (runD d1 (l1.take kk)).2.fields.length < 100000000 ∧ (runD d1 (l1.take kk)).2.states.length < 100000000 ∧ (∀ r ∈ (runD d1 (l1.take kk)).2.fields, r.length < 100000000) ∧ (l1.drop kk).length < 100000000 from ⟨by have := HSH.out.1.l0; omega, by have := HSH.out.1.l3; omega, fun r hr => by have := HSH.out.1.l1 r hr; omega, by simp; omega⟩)
          generalize wd.drew = wq3 at *
          refine flow_region (md := .any) (w0 := wq3) (B := [0, 0, 2, 0, 14, 30, 63, 127, 255, 255, 255, 255, 0, 4607, 13311, 30719, 65535]) [(0, 86), (1, 87), (2, 88), (3, 89), (4, 90), (5, 91), (6, 92), (7, 85), (8, 93), (9, 94), (10, 95), (11, 96), (12, 12), (13, 11), (15, 13), (16, 14)] [14] (fun i b V w' => match i with
              | 0 => V 0 = (vm).val (runD d1 (l1.take kk)).2
              | 1 => V 1 = .pointer (some ⟨pb, 5, none⟩)
              | 2 => V 2 = .slice A l1.length c
              | 3 => V 3 = .int .i64 kk
              | 4 => V 4 = .slice A3 (l1.length - kk) (c - kk)
              | 5 => b 14 = true ∨ ∃ A2 c2, V 5 = .slice A2 (l1.drop kk).length c2 ∧ ActsAt w' A2 (l1.drop kk)
              | 6 => PlayV wq3.heap.size (runD d1 (l1.take kk)).2 (l1.drop kk) (V 6) w'
              | 7 => V 7 = V 6
              | 8 => V 8 = tpart 0 (V 6)
              | 9 => V 9 = tpart 1 (V 6)
              | 10 => V 10 = tpart 2 (V 6)
              | 11 => V 11 = tpart 3 (V 6)
              | 12 => ∃ g, V 12 = .pointer (some ⟨g, 0, none⟩) ∧ (b 14 = false → Blk w' g TWD zero5) ∧ wq3.heap.size ≤ g
              | 13 => V 13 = tpart 0 (V 6)
              | 15 => V 15 = tpart 2 (V 6)
              | 16 => V 16 = tpart 3 (V 6)
              | 14 => ∃ g, V 12 = .pointer (some ⟨g, 0, none⟩) ∧ Blk w' g TWD (cellsW (V 9)) ∧ wq3.heap.size ≤ g
              | _ => True) rfl (by kernel_rfl) (by kernel_rfl) (by kernel_rfl) (by kernel_rfl) (by kernel_rfl) (by kernel_rfl) ?_ ?_ ?_ ?_ ?_
          · intro i hi b b' V V' w' hb h hp
            simp only [List.map_cons, List.map_nil, List.cons_append, List.nil_append, List.mem_cons, List.not_mem_nil, or_false] at hi
            rcases hi with rfl | rfl | rfl | rfl | rfl | rfl | rfl | rfl | rfl | rfl | rfl | rfl | rfl | rfl | rfl | rfl | rfl
            · simp only [← h 0 (.inl rfl)]; exact hp
            · simp only [← h 1 (.inl rfl)]; exact hp
            · simp only [← h 2 (.inl rfl)]; exact hp
            · simp only [← h 3 (.inl rfl)]; exact hp
            · simp only [← h 4 (.inl rfl)]; exact hp
            · simp only [← h 5 (.inl rfl), ← hb 14 (by decide)]; exact hp
            · simp only [← h 6 (.inl rfl)]; exact hp
            · simp only [← h 7 (.inl rfl), ← h 6 (.inr (by kernel_rfl))]; exact hp
            · simp only [← h 8 (.inl rfl), ← h 6 (.inr (by kernel_rfl)), ← h 7 (.inr (by kernel_rfl))]; exact hp
            · simp only [← h 9 (.inl rfl), ← h 6 (.inr (by kernel_rfl)), ← h 7 (.inr (by kernel_rfl))]; exact hp
            · simp only [← h 10 (.inl rfl), ← h 6 (.inr (by kernel_rfl)), ← h 7 (.inr (by kernel_rfl))]; exact hp
            · simp only [← h 11 (.inl rfl), ← h 6 (.inr (by kernel_rfl)), ← h 7 (.inr (by kernel_rfl))]; exact hp
            · simp only [← h 12 (.inl rfl), ← hb 14 (by decide)]; exact hp
            · simp only [← h 13 (.inl rfl), ← h 6 (.inr (by kernel_rfl)), ← h 8 (.inr (by kernel_rfl))]; exact hp
            · simp only [← h 15 (.inl rfl), ← h 6 (.inr (by kernel_rfl)), ← h 10 (.inr (by kernel_rfl))]; exact hp
            · simp only [← h 16 (.inl rfl), ← h 6 (.inr (by kernel_rfl)), ← h 11 (.inr (by kernel_rfl))]; exact hp
            · simp only [← h 14 (.inl rfl), ← h 12 (.inr (by kernel_rfl)), ← h 9 (.inr (by kernel_rfl))]; exact hp
          · intro i hi b V w1 w2 hp hb
            simp only [List.map_cons, List.map_nil, List.cons_append, List.nil_append, List.mem_cons, List.not_mem_nil, or_false] at hi
            rcases hi with rfl | rfl | rfl | rfl | rfl | rfl | rfl | rfl | rfl | rfl | rfl | rfl | rfl | rfl | rfl | rfl | rfl
            · exact hp
            · exact hp
            · exact hp
            · exact hp
            · exact hp
            · exact hp.imp id (fun ⟨A2, c2, h1, h2⟩ => ⟨A2, c2, h1, h2.below hb⟩)
            · exact hp.below hb
            · exact hp
            · exact hp
            · exact hp
            · exact hp
            · exact hp
            · exact let ⟨g, h1, h2, h3⟩ := hp; ⟨g, h1, fun h => (Fr.of_below0 (S := fun _ => False) hb).blk (h2 h) id, h3⟩
            · exact hp
            · exact hp
            · exact hp
            · exact let ⟨g, h1, h2, h3⟩ := hp; ⟨g, h1, (Fr.of_below0 (S := fun _ => False) hb).blk h2 id, h3⟩
          · intro e he
            simp only [List.map_cons, List.map_nil, List.cons_append, List.nil_append, List.mem_cons, List.not_mem_nil, or_false] at he
            rcases he with rfl | rfl | rfl | rfl | rfl | rfl | rfl | rfl | rfl | rfl | rfl | rfl | rfl | rfl | rfl | rfl
            · intro b V a w' hoff hd ho hB
              have e9 : a.tmps[9]? = some (.pointer (some ⟨g2, 0, none⟩)) := (ho 9 (by decide)).trans rfl
              have hc0 := HWC0.out w' hB
              have hc1 := HWC1.out w' hB
              have hc2 := HWC2.out w' hB
              have hc3 := HWC3.out w' hB
              have hc4 := HWC4.out w' hB
              refine ⟨_, rfl, rfl, fun K hK => ?_⟩
              clear hd ho hoff
              refine value_ (w1 := w') (v := (vm).val (runD d1 (l1.take kk)).2) rfl rfl ?_ (hK.out _ _ (Below.refl _ _) (setV_self _ _ _))
              go_simp
            · intro b V a w' hoff hd ho hB
              have e1 : a.tmps[1]? = some (.pointer (some ⟨pb, 0, none⟩)) := (ho 1 (by decide)).trans rfl
              refine ⟨_, rfl, rfl, fun K hK => ?_⟩
              clear hd ho hoff
              refine value_ (w1 := w') (v := .pointer (some ⟨pb, 5, none⟩)) rfl rfl ?_ (hK.out _ _ (Below.refl _ _) (setV_self _ _ _))
              go_simp
            · intro b V a w' hoff hd ho hB
              obtain ⟨e87, p87⟩ := hd (1, 87) (by decide) (by kernel_rfl)
              rw [show V 1 = .pointer (some ⟨pb, 5, none⟩) from p87] at e87
              have hc5 := HPC5.out w' hB
              refine ⟨_, rfl, rfl, fun K hK => ?_⟩
              clear hd ho hoff
              refine value_ (w1 := w') (v := .slice A l1.length c) rfl rfl ?_ (hK.out _ _ (Below.refl _ _) (setV_self _ _ _))
              go_simp
            · intro b V a w' hoff hd ho hB
              have e7 : a.tmps[7]? = some (.int .i64 kk) := (ho 7 (by decide)).trans rfl
              refine ⟨_, rfl, rfl, fun K hK => ?_⟩
              clear hd ho hoff
              refine value_ (w1 := w') (v := .int .i64 kk) rfl rfl ?_ (hK.out _ _ (Below.refl _ _) (setV_self _ _ _))
              go_simp
            · intro b V a w' hoff hd ho hB
              obtain ⟨e88, p88⟩ := hd (2, 88) (by decide) (by kernel_rfl)
              rw [show V 2 = .slice A l1.length c from p88] at e88
              obtain ⟨e89, p89⟩ := hd (3, 89) (by decide) (by kernel_rfl)
              rw [show V 3 = .int .i64 kk from p89] at e89
              refine ⟨_, rfl, rfl, fun K hK => ?_⟩
              clear hd ho hoff
              refine value_ (w1 := w') (v := .slice A3 (l1.length - kk) (c - kk)) rfl rfl ?_ (hK.out _ _ (Below.refl _ _) (setV_self _ _ _))
              rw [HA3.out]
              go_simp
            · intro b V a w' hoff hd ho hB
              have hb_ := hoff 14 (by decide) (by kernel_rfl)
              obtain ⟨e90, p90⟩ := hd (4, 90) (by decide) (by kernel_rfl)
              rw [show V 4 = .slice A3 (l1.length - kk) (c - kk) from p90] at e90
              refine ⟨_, rfl, rfl, fun K hK => ?_⟩
              refine goes_ Try.func19 (by kernel_rfl) rfl #[.slice A3 (l1.length - kk) (c - kk)] (by rfl) rfl rfl (by simp [eval_of e90]) ?_
              refine (law_acts' w' _ _ _ (l1.drop kk) (by simp) (HAQ.out w' hB) (by simp; omega)).mono ?_
              rintro e w2 ⟨v2, rfl, hown, hbl⟩
              obtain ⟨A2, c2, rfl, _, hat⟩ := own_acts hown
              exact ⟨_, rfl, hK.out _ _ hbl (.inr ⟨A2, c2, setV_self _ _ _, hat⟩)⟩
            · intro b V a w' hoff hd ho hB
              have hb_ := hoff 14 (by decide) (by kernel_rfl)
              obtain ⟨e86, p86⟩ := hd (0, 86) (by decide) (by kernel_rfl)
              rw [show V 0 = (vm).val (runD d1 (l1.take kk)).2 from p86] at e86
              obtain ⟨e91, p91⟩ := hd (5, 91) (by decide) (by kernel_rfl)
              refine ⟨_, rfl, rfl, fun K hK => ?_⟩
              rcases p91 with h | ⟨A2, c2, hv2, hac⟩
              · rw [hb_] at h; cases h
              rw [hv2] at e91
              have hrd := HWQ.out w' hB
              refine goes_ Try.func17 (by kernel_rfl) rfl #[(vm).val (runD d1 (l1.take kk)).2, .slice A2 (l1.drop kk).length c2] (by rfl) rfl rfl (by simp [eval_of e86, eval_of e91]) ?_
              refine (rec_play w' _ (runD d1 (l1.take kk)).2 hrd HPL.out.1 HPL.out.2.1 HPL.out.2.2.1 A2 c2 (l1.drop kk) hac HPL.out.2.2.2).mono ?_
              rintro e w2 ⟨hbl, hpp⟩
              rcases hpp with ⟨h, _⟩ | ⟨_, ov, fv, iv, mv, sv, zv, kv, bs, rfl, hout⟩
              · exact absurd HPE.out h
              exact ⟨_, rfl, hK.out _ _ hbl ⟨ov, kv, fv, iv, mv, sv, zv, bs, setV_self _ _ _, play_lower hout hB.size⟩⟩
            · intro b V a w' hoff hd ho hB
              obtain ⟨e92, p92⟩ := hd (6, 92) (by decide) (by kernel_rfl)
              refine ⟨_, rfl, rfl, fun K hK => ?_⟩
              refine value_ (w1 := w') (v := V 6) rfl rfl ?_ (hK.out _ _ (Below.refl _ _) (by show setV V 7 (V 6) 7 = setV V 7 (V 6) 6; rw [setV_self, setV_ne _ _ (by decide)]))
              clear hK hd ho
              obtain ⟨ov, kv, fv, iv, mv, sv, zv, bs, e6, _⟩ := p92
              rw [e6] at e92 ⊢
              go_simp
            · intro b V a w' hoff hd ho hB
              obtain ⟨e85, p85⟩ := hd (7, 85) (by decide) (by kernel_rfl)
              have p_ := (hd (6, 92) (by decide) (by kernel_rfl)).2
              refine ⟨_, rfl, rfl, fun K hK => ?_⟩
              refine value_ (w1 := w') (v := tpart 0 (V 6)) rfl rfl ?_ (hK.out _ _ (Below.refl _ _) (by show setV V 8 _ 8 = tpart 0 (setV V 8 _ 6); rw [setV_self, setV_ne _ _ (by decide)]))
              clear hK hd ho
              obtain ⟨ov, kv, fv, iv, mv, sv, zv, bs, e6, hout⟩ := p_
              rw [p85, e6] at e85
              rw [e6]
              show (execOp a.eval _).run _ _ = .ok (.value ov) w'
              go_simp
            · intro b V a w' hoff hd ho hB
              obtain ⟨e85, p85⟩ := hd (7, 85) (by decide) (by kernel_rfl)
              have p_ := (hd (6, 92) (by decide) (by kernel_rfl)).2
              refine ⟨_, rfl, rfl, fun K hK => ?_⟩
              refine value_ (w1 := w') (v := tpart 1 (V 6)) rfl rfl ?_ (hK.out _ _ (Below.refl _ _) (by show setV V 9 _ 9 = tpart 1 (setV V 9 _ 6); rw [setV_self, setV_ne _ _ (by decide)]))
              clear hK hd ho
              obtain ⟨ov, kv, fv, iv, mv, sv, zv, bs, e6, hout⟩ := p_
              rw [p85, e6] at e85
              rw [e6]
              show (execOp a.eval _).run _ _ = .ok (.value (.agg #[fv, iv, mv, sv, zv])) w'
              go_simp
            · intro b V a w' hoff hd ho hB
              obtain ⟨e85, p85⟩ := hd (7, 85) (by decide) (by kernel_rfl)
              have p_ := (hd (6, 92) (by decide) (by kernel_rfl)).2
              refine ⟨_, rfl, rfl, fun K hK => ?_⟩
              refine value_ (w1 := w') (v := tpart 2 (V 6)) rfl rfl ?_ (hK.out _ _ (Below.refl _ _) (by show setV V 10 _ 10 = tpart 2 (setV V 10 _ 6); rw [setV_self, setV_ne _ _ (by decide)]))
              clear hK hd ho
              obtain ⟨ov, kv, fv, iv, mv, sv, zv, bs, e6, hout⟩ := p_
              rw [p85, e6] at e85
              rw [e6]
              show (execOp a.eval _).run _ _ = .ok (.value kv) w'
              go_simp
            · intro b V a w' hoff hd ho hB
              obtain ⟨e85, p85⟩ := hd (7, 85) (by decide) (by kernel_rfl)
              have p_ := (hd (6, 92) (by decide) (by kernel_rfl)).2
              refine ⟨_, rfl, rfl, fun K hK => ?_⟩
              refine value_ (w1 := w') (v := tpart 3 (V 6)) rfl rfl ?_ (hK.out _ _ (Below.refl _ _) (by show setV V 11 _ 11 = tpart 3 (setV V 11 _ 6); rw [setV_self, setV_ne _ _ (by decide)]))
              clear hK hd ho
              obtain ⟨ov, kv, fv, iv, mv, sv, zv, bs, e6, hout⟩ := p_
              rw [p85, e6] at e85
              rw [e6]
              show (execOp a.eval _).run _ _ = .ok (.value (.int .i64 0)) w'
              go_simp
            · intro b V a w' hoff hd ho hB
              have hb_ := hoff 14 (by decide) (by kernel_rfl)
              refine ⟨_, rfl, rfl, fun K hK => ?_⟩
              refine value_ (w1 := w'.alloc (.cells zero5.toArray TWD)) (v := .pointer (some ⟨w'.heap.size, 0, none⟩)) rfl rfl ?_ (hK.out _ _ ((Below.refl _ _).alloc (Nat.le_refl _) _) ⟨w'.heap.size, setV_self _ _ _, fun _ => Blk.new w' TWD zero5, hB.size⟩)
              clear hd ho hK
              go_simp
            · intro b V a w' hoff hd ho hB
              obtain ⟨e93, p93⟩ := hd (8, 93) (by decide) (by kernel_rfl)
              have p_ := (hd (6, 92) (by decide) (by kernel_rfl)).2
              refine ⟨_, rfl, rfl, fun K hK => ?_⟩
              refine value_ (w1 := w') (v := tpart 0 (V 6)) rfl rfl ?_ (hK.out _ _ (Below.refl _ _) (by show setV V 13 _ 13 = tpart 0 (setV V 13 _ 6); rw [setV_self, setV_ne _ _ (by decide)]))
              clear hK hd ho
              obtain ⟨ov, kv, fv, iv, mv, sv, zv, bs, e6, hout⟩ := p_
              rw [p93, e6] at e93
              change a.tmps[93]? = some ov at e93
              rw [e6]
              show (execOp a.eval _).run _ _ = .ok (.value ov) w'
              obtain ⟨A0, c0, x0, _, _⟩ := owns_slice hout.out
              rw [x0] at e93 ⊢
              go_simp
            · intro b V a w' hoff hd ho hB
              obtain ⟨e95, p95⟩ := hd (10, 95) (by decide) (by kernel_rfl)
              have p_ := (hd (6, 92) (by decide) (by kernel_rfl)).2
              refine ⟨_, rfl, rfl, fun K hK => ?_⟩
              refine value_ (w1 := w') (v := tpart 2 (V 6)) rfl rfl ?_ (hK.out _ _ (Below.refl _ _) (by show setV V 15 _ 15 = tpart 2 (setV V 15 _ 6); rw [setV_self, setV_ne _ _ (by decide)]))
              clear hK hd ho
              obtain ⟨ov, kv, fv, iv, mv, sv, zv, bs, e6, hout⟩ := p_
              rw [p95, e6] at e95
              change a.tmps[95]? = some kv at e95
              rw [e6]
              show (execOp a.eval _).run _ _ = .ok (.value kv) w'
              obtain ⟨A0, c0, x0, _, _⟩ := owns_slice hout.kin
              rw [x0] at e95 ⊢
              go_simp
            · intro b V a w' hoff hd ho hB
              obtain ⟨e96, p96⟩ := hd (11, 96) (by decide) (by kernel_rfl)
              have p_ := (hd (6, 92) (by decide) (by kernel_rfl)).2
              refine ⟨_, rfl, rfl, fun K hK => ?_⟩
              refine value_ (w1 := w') (v := tpart 3 (V 6)) rfl rfl ?_ (hK.out _ _ (Below.refl _ _) (by show setV V 16 _ 16 = tpart 3 (setV V 16 _ 6); rw [setV_self, setV_ne _ _ (by decide)]))
              clear hK hd ho
              obtain ⟨ov, kv, fv, iv, mv, sv, zv, bs, e6, hout⟩ := p_
              rw [p96, e6] at e96
              change a.tmps[96]? = some (.int .i64 0) at e96
              rw [e6]
              show (execOp a.eval _).run _ _ = .ok (.value (.int .i64 0)) w'
              go_simp
          · intro s hs
            simp only [List.map_cons, List.map_nil, List.cons_append, List.nil_append, List.mem_cons, List.not_mem_nil, or_false] at hs
            subst hs
            · intro b V a w' hb_ hd ho hB
              obtain ⟨e12, p12⟩ := hd (12, 12) (by decide) (by kernel_rfl)
              obtain ⟨e94, p94⟩ := hd (9, 94) (by decide) (by kernel_rfl)
              obtain ⟨e92, p92⟩ := hd (6, 92) (by decide) (by kernel_rfl)
              refine ⟨_, rfl, rfl, fun K hK => ?_⟩
              obtain ⟨g, hg, hgz0, hgl⟩ := p12
              have hgz := hgz0 hb_
              rw [hg] at e12
              have p_ := (hd (6, 92) (by decide) (by kernel_rfl)).2
              obtain ⟨ov, kv, fv, iv, mv, sv, zv, bs, e6, hout⟩ := p_
              have hx : V 9 = .agg #[fv, iv, mv, sv, zv] := by rw [p94, e6]; rfl
              rw [hx] at e94
              have hst := run_store_run (P := Try.prog) (w := w') (g := g) (o := 0) TWD (.agg #[fv, iv, mv, sv, zv]) [fv, iv, mv, sv, zv] hgz rfl wsize (by simp [zero5]) (by obtain ⟨A0, c0, x0, _, _⟩ := owns_slice hout.wld.f; obtain ⟨A1, c1, x1, _, _⟩ := owns_slice hout.wld.i; obtain ⟨A2, c2, x2, _, _⟩ := owns_slice hout.wld.m; obtain ⟨A3, c3, x3, _, _⟩ := owns_slice hout.wld.s; obtain ⟨A4, c4, x4, _, _⟩ := owns_slice hout.wld.z; rw [x0, x1, x2, x3, x4]; intro q hq; simp only [List.mem_cons, List.not_mem_nil, or_false] at hq; rcases hq with rfl | rfl | rfl | rfl | rfl <;> rfl)
              obtain ⟨hbz, hfz⟩ := res_end hgz fv iv mv sv zv _ rfl
              refine skip_ (by rfl) rfl (store_exec rfl (eval_of e12) (eval_of e94) hst) (hK.out _ (hB.trans (hfz.below hB.size (fun k hk => by rw [hk]; exact hgl))) ⟨g, hg, by rw [hx]; exact hbz, hgl⟩ (fun i hi hne hbi hp => ?_))
              simp only [List.map_cons, List.map_nil, List.cons_append, List.nil_append, List.mem_cons, List.not_mem_nil, or_false] at hi
              rcases hi with rfl | rfl | rfl | rfl | rfl | rfl | rfl | rfl | rfl | rfl | rfl | rfl | rfl | rfl | rfl | rfl | rfl
              · exact hp
              · exact hp
              · exact hp
              · exact hp
              · exact hp
              · exact .inl (up_self _ _)
              · exact hp.store hgz (by decide) (by decide) (by decide) hfz
              · exact hp
              · exact hp
              · exact hp
              · exact hp
              · exact hp
              · obtain ⟨g2, k1, _, k3⟩ := hp; exact ⟨g2, k1, fun h => absurd ((up_self b _).symm.trans h) (by decide), k3⟩
              · exact hp
              · exact hp
              · exact hp
              · exact absurd rfl hne
          · intro b V a w' hball hfr hB hP
            have hb14 := hball 14 (by decide)
            have P0 := hP 0 (by decide)
            have P1 := hP 1 (by decide)
            have P2 := hP 2 (by decide)
            have P3 := hP 3 (by decide)
            have P4 := hP 4 (by decide)
            have P5 := hP 5 (by decide)
            have P6 := hP 6 (by decide)
            have P7 := hP 7 (by decide)
            have P8 := hP 8 (by decide)
            have P9 := hP 9 (by decide)
            have P10 := hP 10 (by decide)
            have P11 := hP 11 (by decide)
            have P12 := hP 12 (by decide)
            have P13 := hP 13 (by decide)
            have P15 := hP 15 (by decide)
            have P16 := hP 16 (by decide)
            have P14 := hP 14 (by decide)
            clear hP hball
            obtain ⟨g3, hg, hgb, hgl⟩ := P14
            obtain ⟨ov3, kv3, fv3, iv3, mv3, sv3, zv3, bs3, e6, hout⟩ := P6
            have x0 : V 13 = ov3 := by rw [P13, e6]; rfl
            have x1 : V 9 = .agg #[fv3, iv3, mv3, sv3, zv3] := by rw [P9, e6]; rfl
            have x2 : V 15 = kv3 := by rw [P15, e6]; rfl
            have x3 : V 16 = .int .i64 0 := by rw [P16, e6]; rfl
            rw [x1] at hgb
            have hbr := HBQ.out _ hB
            have HM3 := Lib.hid (show Left1 wB pb (caseC v1 d1 A c l1.length N M) g3 wq3.heap.size (runD d1 (l1.take kk)).2 (l1.drop kk) ov3 fv3 iv3 mv3 sv3 zv3 kv3 bs3 w' from ⟨HK2.out.old.trans (hbr.mono HK2.out.old.size), (Fr.of_below0 (S := fun _ => False) hbr).blk HK2.out.par id, hgb, hout, by rw [HSQ.out]; exact HK2.out.old.size⟩)
            have HKa := Lib.hid (HK2.out.below hbr)
            have HMa := Lib.hid (HM2.out.below hbr)
            subst hfr
            simp only [vrows, List.map_cons, List.map_nil, putSel, if_true, Act.put, List.setIfInBounds_toArray, List.set_cons_zero, List.set_cons_succ]
            rw [hg, x0, x2, x3]
            clear P0 P1 P2 P3 P4 P5 P7 P8 P9 P10 P11 P12 P13 P15 P16 x0 x1 x2 x3 hg hgb hgl hB hbr HBQ HSQ HVQ HAQ HAQ0 HPC0 HPC1 HPC2 HPC3 HPC4 HPC5 HWC0 HWC1 HWC2 HWC3 HWC4 HWQ HA3 HLB HPL HPE e6 hout
            clear HK2 HM2
            go_wp2_with fail
            obtain ⟨wf, rfl⟩ : ∃ x : World, x = w' := ⟨_, rfl⟩
            obtain ⟨ve, rfl, rfl, rfl, rfl, rfl, hre⟩ := HKa.out.out.wld.reads
            obtain ⟨vl, rfl, rfl, rfl, rfl, rfl, hrl⟩ := HM3.out.out.wld.reads
            have hdd : (runD (runD d1 (l1.take kk)).2 (l1.drop kk)).2 = (runD d1 l1).2 := by rw [runD_two d1 l1 kk]
            rw [hdd] at hrl
            obtain ⟨B0, hB0⟩ : ∃ B, B = wf.drew.heap.size := ⟨_, rfl⟩
            have HBQ := Lib.hid (show ∀ w'', Below B0 wf.drew w'' → Below wf.heap.size wf w'' from fun _ hb => ⟨hb.os, hb.tape, hb.output, hb.size, by rw [hB0] at hb; exact hb.block⟩)
            have HBS := Lib.hid (show ∀ w'', Below B0 wf.drew w'' → B0 ≤ w''.heap.size from fun _ hb => by rw [hB0]; exact hb.size)
            clear hB0
            have HRE := Lib.hid (fun w'' (hb : Below B0 wf.drew w'') => hre.below (HBQ.out w'' hb))
            have HRL := Lib.hid (fun w'' (hb : Below B0 wf.drew w'') => hrl.below (HBQ.out w'' hb))
            have HCE0 := Lib.hid (fun w'' (hb : Below B0 wf.drew w'') => pw_cell_below (w := wf) (HBQ.out w'' hb) (HKa.out.box.cell 0))
            have HCE1 := Lib.hid (fun w'' (hb : Below B0 wf.drew w'') => pw_cell_below (w := wf) (HBQ.out w'' hb) (HKa.out.box.cell 1))
            have HCE2 := Lib.hid (fun w'' (hb : Below B0 wf.drew w'') => pw_cell_below (w := wf) (HBQ.out w'' hb) (HKa.out.box.cell 2))
            have HCE3 := Lib.hid (fun w'' (hb : Below B0 wf.drew w'') => pw_cell_below (w := wf) (HBQ.out w'' hb) (HKa.out.box.cell 3))
            have HCE4 := Lib.hid (fun w'' (hb : Below B0 wf.drew w'') => pw_cell_below (w := wf) (HBQ.out w'' hb) (HKa.out.box.cell 4))
            have hx0 := HM3.out.box.cell 0
            have hx1 := HM3.out.box.cell 1
            have hx2 := HM3.out.box.cell 2
            have hx3 := HM3.out.box.cell 3
            have hx4 := HM3.out.box.cell 4
            simp only [hdd] at hx0 hx1 hx2 hx3 hx4
            have HCL0 := Lib.hid (fun w'' (hb : Below B0 wf.drew w'') => pw_cell_below (w := wf) (HBQ.out w'' hb) hx0)
            have HCL1 := Lib.hid (fun w'' (hb : Below B0 wf.drew w'') => pw_cell_below (w := wf) (HBQ.out w'' hb) hx1)
            have HCL2 := Lib.hid (fun w'' (hb : Below B0 wf.drew w'') => pw_cell_below (w := wf) (HBQ.out w'' hb) hx2)
            have HCL3 := Lib.hid (fun w'' (hb : Below B0 wf.drew w'') => pw_cell_below (w := wf) (HBQ.out w'' hb) hx3)
            have HCL4 := Lib.hid (fun w'' (hb : Below B0 wf.drew w'') => pw_cell_below (w := wf) (HBQ.out w'' hb) hx4)
            have hL1 : (l1.take kk).length = kk := by simp; omega
            have hL2 : (l1.drop kk).length = l1.length - kk := by simp
            obtain ⟨Ao, co, rfl, hr1, _⟩ := owns_slice HKa.out.out.out
            obtain ⟨Ao2, co2, rfl, hr2, _⟩ := owns_slice (show wf.ownsRow _ _ 1 _ kk _ from by have := HMa.out.out.out; rwa [hL1] at this)
            obtain ⟨Ao3, co3, rfl, hr3, _⟩ := owns_slice (show wf.ownsRow _ _ 1 _ (l1.length - kk) _ from by have := HM3.out.out.out; rwa [hL2] at this)
            obtain ⟨Ak, ck, rfl, hk1, _⟩ := owns_slice HKa.out.out.kin
            obtain ⟨Ak2, ck2, rfl, hk2, _⟩ := owns_slice (show wf.ownsRow _ _ 1 _ kk _ from by have := HMa.out.out.kin; rwa [hL1] at this)
            obtain ⟨Ak3, ck3, rfl, hk3, _⟩ := owns_slice (show wf.ownsRow _ _ 1 _ (l1.length - kk) _ from by have := HM3.out.out.kin; rwa [hL2] at this)
            have HR1 := Lib.hid (fun w'' (hb : Below B0 wf.drew w'') => hr1.below (HBQ.out w'' hb))
            have HR2 := Lib.hid (fun w'' (hb : Below B0 wf.drew w'') => hr2.below (HBQ.out w'' hb))
            have HR3 := Lib.hid (fun w'' (hb : Below B0 wf.drew w'') => hr3.below (HBQ.out w'' hb))
            have HK1 := Lib.hid (fun w'' (hb : Below B0 wf.drew w'') => hk1.below (HBQ.out w'' hb))
            have HK2 := Lib.hid (fun w'' (hb : Below B0 wf.drew w'') => hk2.below (HBQ.out w'' hb))
            have HK3 := Lib.hid (fun w'' (hb : Below B0 wf.drew w'') => hk3.below (HBQ.out w'' hb))
            have HXA := Lib.hid (show (runD d1 l1).1 = (runD d1 (l1.take kk)).1 ++ (runD (runD d1 (l1.take kk)).2 (l1.drop kk)).1 by rw [runD_two d1 l1 kk])
            have HXK := Lib.hid (kinds_two l1 kk)
            have HFE := Lib.hid (show (runD d1 l1).2.Form from (runD_form HGD.out.Form l1 HGD.out.fits).1)
            have HFIN := Lib.hid (show ∀ w'', Below B0 wf.drew w'' → Below w.heap.size w w'' from fun w'' hb => HBB.out.trans ((HKa.out.old.trans ((HBQ.out w'' hb).mono HKa.out.old.size)).mono HBB.out.size))
            clear hL1 hL2 hre hrl hdd hx0 hx1 hx2 hx3 hx4 hr1 hr2 hr3 hk1 hk2 hk3 HKa HMa HM3 HSH HGD HKK HVB HA HBB HPB HLL HBQ
            refine start_ (n := 32) (S := fun w' => Below B0 wf.drew w') (ds := []) #[false, false, false, false, false, false, false, false, false, false, false, false, false, false, false, false, false, false, false, false, false, false, false, false, false, false, false, false, false, false, false, false] (by kernel_rfl) rfl rfl (Below.refl _ _) (fun hHeld => ?_)
            have S1 : Below B0 wf.drew wf.drew := Below.refl _ _
            generalize wf.drew = wR at *
            refine pure_ (i := 0) (N := some 97) (v := ?_) (a' := ?_) #[true, false, false, false, false, false, false, false, false, false, false, false, false, false, false, false, false, false, false, false, false, false, false, false, false, false, false, false, false, false, false, false] rfl rfl (by kernel_rfl) (fun _ _ _ h => h) (Or.inl ⟨by rfl, ?_⟩) ?_ ?_
            rotate_left
            · intro w'
              go_simp
              with_reducible rfl
            rotate_left
            · simp only [Act.put, List.setIfInBounds_toArray, List.set_cons_zero, List.set_cons_succ]
              rfl
            refine pure_ (i := 1) (N := some 98) (v := ?_) (a' := ?_) #[true, true, false, false, false, false, false, false, false, false, false, false, false, false, false, false, false, false, false, false, false, false, false, false, false, false, false, false, false, false, false, false] rfl rfl (by kernel_rfl) (fun _ _ _ h => h) (Or.inl ⟨by rfl, ?_⟩) ?_ ?_
            rotate_left
            · intro w'
              go_simp
              with_reducible rfl
            rotate_left
            · simp only [Act.put, List.setIfInBounds_toArray, List.set_cons_zero, List.set_cons_succ]
              rfl
            refine pure_ (i := 2) (N := some 99) (v := ?_) (a' := ?_) #[true, true, true, false, false, false, false, false, false, false, false, false, false, false, false, false, false, false, false, false, false, false, false, false, false, false, false, false, false, false, false, false] rfl rfl (by kernel_rfl) (fun _ _ _ h => h) (Or.inl ⟨by rfl, ?_⟩) ?_ ?_
            rotate_left
            · intro w'
              go_simp
              with_reducible rfl
            rotate_left
            · simp only [Act.put, List.setIfInBounds_toArray, List.set_cons_zero, List.set_cons_succ]
              rfl
            refine pure_ (i := 3) (N := some 100) (v := ?_) (a' := ?_) #[true, true, true, true, false, false, false, false, false, false, false, false, false, false, false, false, false, false, false, false, false, false, false, false, false, false, false, false, false, false, false, false] rfl rfl (by kernel_rfl) (fun _ _ _ h => h) (Or.inl ⟨by rfl, ?_⟩) ?_ ?_
            rotate_left
            · intro w'
              go_simp
              with_reducible rfl
            rotate_left
            · simp only [Act.put, List.setIfInBounds_toArray, List.set_cons_zero, List.set_cons_succ]
              rfl
            refine pure_ (i := 4) (N := some 101) (v := ?_) (a' := ?_) #[true, true, true, true, true, false, false, false, false, false, false, false, false, false, false, false, false, false, false, false, false, false, false, false, false, false, false, false, false, false, false, false] rfl rfl (by kernel_rfl) (fun _ _ _ h => h) (Or.inl ⟨by rfl, ?_⟩) ?_ ?_
            rotate_left
            · intro w'
              go_simp
              with_reducible rfl
            rotate_left
            · simp only [Act.put, List.setIfInBounds_toArray, List.set_cons_zero, List.set_cons_succ]
              rfl
            refine pure_ (i := 5) (N := some 102) (v := ?_) (a' := ?_) #[true, true, true, true, true, true, false, false, false, false, false, false, false, false, false, false, false, false, false, false, false, false, false, false, false, false, false, false, false, false, false, false] rfl rfl (by kernel_rfl) (fun _ _ _ h => h) (Or.inl ⟨by rfl, ?_⟩) ?_ ?_
            rotate_left
            · intro w'
              go_simp
              with_reducible rfl
            rotate_left
            · simp only [Act.put, List.setIfInBounds_toArray, List.set_cons_zero, List.set_cons_succ]
              rfl
            refine pure_ (i := 6) (N := some 103) (v := ?_) (a' := ?_) #[true, true, true, true, true, true, true, false, false, false, false, false, false, false, false, false, false, false, false, false, false, false, false, false, false, false, false, false, false, false, false, false] rfl rfl (by kernel_rfl) (fun _ _ _ h => h) (Or.inl ⟨by rfl, ?_⟩) ?_ ?_
            rotate_left
            · intro w'
              go_simp
              with_reducible rfl
            rotate_left
            · simp only [Act.put, List.setIfInBounds_toArray, List.set_cons_zero, List.set_cons_succ]
              rfl
            refine pure_ (i := 8) (N := some 105) (v := ?_) (a' := ?_) #[true, true, true, true, true, true, true, false, true, false, false, false, false, false, false, false, false, false, false, false, false, false, false, false, false, false, false, false, false, false, false, false] rfl rfl (by kernel_rfl) (fun _ _ _ h => h) (Or.inl ⟨by rfl, ?_⟩) ?_ ?_
            rotate_left
            · intro w'
              go_simp
              with_reducible rfl
            rotate_left
            · simp only [Act.put, List.setIfInBounds_toArray, List.set_cons_zero, List.set_cons_succ]
              rfl
            refine pure_ (i := 10) (N := some 107) (v := ?_) (a' := ?_) #[true, true, true, true, true, true, true, false, true, false, true, false, false, false, false, false, false, false, false, false, false, false, false, false, false, false, false, false, false, false, false, false] rfl rfl (by kernel_rfl) (fun _ _ _ h => h) (Or.inl ⟨by rfl, ?_⟩) ?_ ?_
            rotate_left
            · intro w'
              go_simp
              with_reducible rfl
            rotate_left
            · simp only [Act.put, List.setIfInBounds_toArray, List.set_cons_zero, List.set_cons_succ]
              rfl
            refine pure_ (i := 12) (N := some 109) (v := ?_) (a' := ?_) #[true, true, true, true, true, true, true, false, true, false, true, false, true, false, false, false, false, false, false, false, false, false, false, false, false, false, false, false, false, false, false, false] rfl rfl (by kernel_rfl) (fun _ _ _ h => h) (Or.inl ⟨by rfl, ?_⟩) ?_ ?_
            rotate_left
            · intro w'
              go_simp
              with_reducible rfl
            rotate_left
            · simp only [Act.put, List.setIfInBounds_toArray, List.set_cons_zero, List.set_cons_succ]
              rfl
            refine one_ (i := 7) (N := some 104) #[true, true, true, true, true, true, true, true, true, false, true, false, true, false, false, false, false, false, false, false, false, false, false, false, false, false, false, false, false, false, false, false] rfl rfl (by kernel_rfl) (by decide) (fun K hK => ?_)
            refine value_ (w1 := wR.alloc (.cells #[] 3)) (v := .slice (some ⟨wR.heap.size, 0, none⟩) 0 0) (by rfl) rfl ?_ (hK.out _ _ (below_allocB S1 (HBS.out _ S1) _) (fun hHeld => ?_))
            · clear hK; go_simp
            simp only [Act.put, List.setIfInBounds_toArray, List.set_cons_zero, List.set_cons_succ]
            have hs1 := Blk.new wR TII []
            have hle1 := HBS.out _ S1
            have S1a := below_allocB S1 (HBS.out _ S1) (.cells #[] 3)
            clear S1 hK
            obtain ⟨z1, hz1⟩ : ∃ z, z = wR.heap.size := ⟨_, rfl⟩
            rw [← hz1] at hs1 hle1 ⊢
            change Blk (wR.alloc (.cells #[] 3)) z1 TII [] at hs1
            generalize wR.alloc (.cells #[] 3) = y1 at *
            clear hz1
            refine one_ (i := 9) (N := some 106) #[true, true, true, true, true, true, true, true, true, true, true, false, true, false, false, false, false, false, false, false, false, false, false, false, false, false, false, false, false, false, false, false] rfl rfl (by kernel_rfl) (by decide) (fun K hK => ?_)
            obtain ⟨va1, wa1, hrun, hbl, hown, _⟩ := run_append_lit (P := Try.prog) (w := y1) (s := z1) (c := co2) 23 23 3 (.int .i64 0) 8 Try.underlying23 pinfo_int rfl hs1 (HR2.out _ S1a) (one_int _) (by simp only [maxLen]; omega) (by omega) B0 hle1
            refine value_ (w1 := wa1) (v := va1) (by rfl) rfl (append_exec rfl (eval_of rfl) (eval_of rfl) hrun) (hK.out _ _ (S1a.trans (hbl.mono (HBS.out _ S1a))) (fun hHeld => ?_))
            simp only [Act.put, List.setIfInBounds_toArray, List.set_cons_zero, List.set_cons_succ]
            have S1b := S1a.trans (hbl.mono (HBS.out _ S1a))
            clear hrun hbl hs1 S1a hK
            refine one_ (i := 11) (N := some 108) #[true, true, true, true, true, true, true, true, true, true, true, true, true, false, false, false, false, false, false, false, false, false, false, false, false, false, false, false, false, false, false, false] rfl rfl (by kernel_rfl) (by decide) (fun K hK => ?_)
            obtain ⟨vb1, wb1, hrun, hgr, hown2⟩ := run_append_row (P := Try.prog) (w := wa1) (c := co3) 23 23 3 (.int .i64 0) 8 Try.underlying23 pinfo_int rfl hown (HR3.out _ S1b) (one_int _) (by simp only [maxLen]; omega) (by omega) (HBS.out _ S1b)
            have S1c := pw_below_grown S1b _ (HBS.out _ S1b) hgr (fun k hk => own_base hown k hk)
            refine value_ (w1 := wb1) (v := vb1) (by rfl) rfl (append_exec rfl (eval_of rfl) (eval_of rfl) hrun) (hK.out _ _ S1c (fun hHeld => ?_))
            simp only [Act.put, List.setIfInBounds_toArray, List.set_cons_zero, List.set_cons_succ]
            rw [← List.map_append, ← HXA.out, show kk + (l1.length - kk) = l1.length by omega] at hown2
            obtain ⟨Ab1, cb1, rfl, hr1, _⟩ := owns_slice hown2
            clear hrun hgr hown hown2 hle1 S1b hK
            refine one_ (i := 13) (N := some 110) #[true, true, true, true, true, true, true, true, true, true, true, true, true, true, false, false, false, false, false, false, false, false, false, false, false, false, false, false, false, false, false, false] rfl rfl (by kernel_rfl) (by decide) (fun K hK => ?_)
            refine goes_ Try.func21 (by kernel_rfl) rfl #[.slice Ab1 l1.length cb1, .slice Ao l1.length co] (by rfl) rfl rfl (by simp [Act.eval]) ?_
            refine (same_ints' _ _ l1.length (runD d1 l1).1 _ _ _ (by rw [runD_length]) (by omega) hr1 (HR1.out _ S1c)).mono ?_
            rintro e w9 ⟨rfl, m9, rfl⟩
            refine ⟨_, rfl, hK.out _ _ (pw_below_drewN S1c m9) (fun hHeld => ?_)⟩
            simp only [Act.put, List.setIfInBounds_toArray, List.set_cons_zero, List.set_cons_succ]
            have S2 := pw_below_drewN S1c m9
            clear hK hr1 S1c
            generalize wb1.drewN m9 = wn2 at *
            refine pure_ (i := 14) (N := some 111) (v := ?_) (a' := ?_) #[true, true, true, true, true, true, true, true, true, true, true, true, true, true, true, false, false, false, false, false, false, false, false, false, false, false, false, false, false, false, false, false] rfl rfl (by kernel_rfl) (fun _ _ _ h => h) (Or.inl ⟨by rfl, ?_⟩) ?_ ?_
            rotate_left
            · intro w'
              go_simp
              with_reducible rfl
            rotate_left
            · simp only [Act.put, List.setIfInBounds_toArray, List.set_cons_zero, List.set_cons_succ]
              rfl
            refine pure_ (i := 15) (N := some 112) (v := ?_) (a' := ?_) #[true, true, true, true, true, true, true, true, true, true, true, true, true, true, true, true, false, false, false, false, false, false, false, false, false, false, false, false, false, false, false, false] rfl rfl (by kernel_rfl) (fun _ _ _ h => h) (Or.inl ⟨by rfl, ?_⟩) ?_ ?_
            rotate_left
            · intro w'
              go_simp
              with_reducible rfl
            rotate_left
            · simp only [Act.put, List.setIfInBounds_toArray, List.set_cons_zero, List.set_cons_succ]
              rfl
            refine pure_ (i := 17) (N := some 114) (v := ?_) (a' := ?_) #[true, true, true, true, true, true, true, true, true, true, true, true, true, true, true, true, false, true, false, false, false, false, false, false, false, false, false, false, false, false, false, false] rfl rfl (by kernel_rfl) (fun _ _ _ h => h) (Or.inl ⟨by rfl, ?_⟩) ?_ ?_
            rotate_left
            · intro w'
              go_simp
              with_reducible rfl
            rotate_left
            · simp only [Act.put, List.setIfInBounds_toArray, List.set_cons_zero, List.set_cons_succ]
              rfl
            refine pure_ (i := 19) (N := some 116) (v := ?_) (a' := ?_) #[true, true, true, true, true, true, true, true, true, true, true, true, true, true, true, true, false, true, false, true, false, false, false, false, false, false, false, false, false, false, false, false] rfl rfl (by kernel_rfl) (fun _ _ _ h => h) (Or.inl ⟨by rfl, ?_⟩) ?_ ?_
            rotate_left
            · intro w'
              go_simp
              with_reducible rfl
            rotate_left
            · simp only [Act.put, List.setIfInBounds_toArray, List.set_cons_zero, List.set_cons_succ]
              rfl
            refine pure_ (i := 21) (N := some 118) (v := ?_) (a' := ?_) #[true, true, true, true, true, true, true, true, true, true, true, true, true, true, true, true, false, true, false, true, false, true, false, false, false, false, false, false, false, false, false, false] rfl rfl (by kernel_rfl) (fun _ _ _ h => h) (Or.inl ⟨by rfl, ?_⟩) ?_ ?_
            rotate_left
            · intro w'
              go_simp
              with_reducible rfl
            rotate_left
            · simp only [Act.put, List.setIfInBounds_toArray, List.set_cons_zero, List.set_cons_succ]
              rfl
            refine one_ (i := 16) (N := some 113) #[true, true, true, true, true, true, true, true, true, true, true, true, true, true, true, true, true, true, false, true, false, true, false, false, false, false, false, false, false, false, false, false] rfl rfl (by kernel_rfl) (by decide) (fun K hK => ?_)
            refine value_ (w1 := wn2.alloc (.cells #[] 3)) (v := .slice (some ⟨wn2.heap.size, 0, none⟩) 0 0) (by rfl) rfl ?_ (hK.out _ _ (below_allocB S2 (HBS.out _ S2) _) (fun hHeld => ?_))
            · clear hK; go_simp
            simp only [Act.put, List.setIfInBounds_toArray, List.set_cons_zero, List.set_cons_succ]
            have hs2 := Blk.new wn2 TII []
            have hle2 := HBS.out _ S2
            have S2a := below_allocB S2 (HBS.out _ S2) (.cells #[] 3)
            clear S2 hK
            obtain ⟨z2, hz2⟩ : ∃ z, z = wn2.heap.size := ⟨_, rfl⟩
            rw [← hz2] at hs2 hle2 ⊢
            change Blk (wn2.alloc (.cells #[] 3)) z2 TII [] at hs2
            generalize wn2.alloc (.cells #[] 3) = y2 at *
            clear hz2
            refine one_ (i := 18) (N := some 115) #[true, true, true, true, true, true, true, true, true, true, true, true, true, true, true, true, true, true, true, true, false, true, false, false, false, false, false, false, false, false, false, false] rfl rfl (by kernel_rfl) (by decide) (fun K hK => ?_)
            obtain ⟨va2, wa2, hrun, hbl, hown, _⟩ := run_append_lit (P := Try.prog) (w := y2) (s := z2) (c := ck2) 23 23 3 (.int .i64 0) 8 Try.underlying23 pinfo_int rfl hs2 (HK2.out _ S2a) (one_int _) (by simp only [maxLen]; omega) (by omega) B0 hle2
            refine value_ (w1 := wa2) (v := va2) (by rfl) rfl (append_exec rfl (eval_of rfl) (eval_of rfl) hrun) (hK.out _ _ (S2a.trans (hbl.mono (HBS.out _ S2a))) (fun hHeld => ?_))
            simp only [Act.put, List.setIfInBounds_toArray, List.set_cons_zero, List.set_cons_succ]
            have S2b := S2a.trans (hbl.mono (HBS.out _ S2a))
            clear hrun hbl hs2 S2a hK
            refine one_ (i := 20) (N := some 117) #[true, true, true, true, true, true, true, true, true, true, true, true, true, true, true, true, true, true, true, true, true, true, false, false, false, false, false, false, false, false, false, false] rfl rfl (by kernel_rfl) (by decide) (fun K hK => ?_)
            obtain ⟨vb2, wb2, hrun, hgr, hown2⟩ := run_append_row (P := Try.prog) (w := wa2) (c := ck3) 23 23 3 (.int .i64 0) 8 Try.underlying23 pinfo_int rfl hown (HK3.out _ S2b) (one_int _) (by simp only [maxLen]; omega) (by omega) (HBS.out _ S2b)
            have S2c := pw_below_grown S2b _ (HBS.out _ S2b) hgr (fun k hk => own_base hown k hk)
            refine value_ (w1 := wb2) (v := vb2) (by rfl) rfl (append_exec rfl (eval_of rfl) (eval_of rfl) hrun) (hK.out _ _ S2c (fun hHeld => ?_))
            simp only [Act.put, List.setIfInBounds_toArray, List.set_cons_zero, List.set_cons_succ]
            rw [← List.map_append, ← HXK.out, show kk + (l1.length - kk) = l1.length by omega] at hown2
            obtain ⟨Ab2, cb2, rfl, hr2, _⟩ := owns_slice hown2
            clear hrun hgr hown hown2 hle2 S2b hK
            refine one_ (i := 22) (N := some 119) #[true, true, true, true, true, true, true, true, true, true, true, true, true, true, true, true, true, true, true, true, true, true, true, false, false, false, false, false, false, false, false, false] rfl rfl (by kernel_rfl) (by decide) (fun K hK => ?_)
            refine goes_ Try.func21 (by kernel_rfl) rfl #[.slice Ab2 l1.length cb2, .slice Ak l1.length ck] (by rfl) rfl rfl (by simp [Act.eval]) ?_
            refine (same_ints' _ _ l1.length (kinds l1) _ _ _ (by simp [kinds]) (by omega) hr2 (HK1.out _ S2c)).mono ?_
            rintro e w9 ⟨rfl, m9, rfl⟩
            refine ⟨_, rfl, hK.out _ _ (pw_below_drewN S2c m9) (fun hHeld => ?_)⟩
            simp only [Act.put, List.setIfInBounds_toArray, List.set_cons_zero, List.set_cons_succ]
            have S3 := pw_below_drewN S2c m9
            clear hK hr2 S2c
            generalize wb2.drewN m9 = wn3 at *
            refine pure_ (i := 23) (N := some 120) (v := ?_) (a' := ?_) #[true, true, true, true, true, true, true, true, true, true, true, true, true, true, true, true, true, true, true, true, true, true, true, true, false, false, false, false, false, false, false, false] rfl rfl (by kernel_rfl) (fun _ _ _ h => h) (Or.inl ⟨by rfl, ?_⟩) ?_ ?_
            rotate_left
            · intro w'
              go_simp
              with_reducible rfl
            rotate_left
            · simp only [Act.put, List.setIfInBounds_toArray, List.set_cons_zero, List.set_cons_succ]
              rfl
            refine pure_ (i := 24) (N := some 121) (v := ?_) (a' := ?_) #[true, true, true, true, true, true, true, true, true, true, true, true, true, true, true, true, true, true, true, true, true, true, true, true, true, false, false, false, false, false, false, false] rfl rfl (by kernel_rfl) (fun _ _ _ h => h) (Or.inl ⟨by rfl, ?_⟩) ?_ ?_
            rotate_left
            · intro w'
              go_simp
              with_reducible rfl
            rotate_left
            · simp only [Act.put, List.setIfInBounds_toArray, List.set_cons_zero, List.set_cons_succ]
              rfl
            refine take_ (i := 25) (N := some 122) (v := vl.val (runD d1 l1).2) (a' := ?_) #[true, true, true, true, true, true, true, true, true, true, true, true, true, true, true, true, true, true, true, true, true, true, true, true, true, true, false, false, false, false, false, false] rfl rfl (by kernel_rfl) (fun _ _ _ h => h) (Or.inl ⟨by rfl, ?_⟩) hHeld ?_ ?_
            · rintro w' s0
              have hc0 := HCL0.out w' s0
              have hc1 := HCL1.out w' s0
              have hc2 := HCL2.out w' s0
              have hc3 := HCL3.out w' s0
              have hc4 := HCL4.out w' s0
              go_simp
            rotate_left
            · simp only [Act.put, List.setIfInBounds_toArray, List.set_cons_zero, List.set_cons_succ]
              rfl
            refine take_ (i := 27) (N := some 124) (v := ve.val (runD d1 l1).2) (a' := ?_) #[true, true, true, true, true, true, true, true, true, true, true, true, true, true, true, true, true, true, true, true, true, true, true, true, true, true, false, true, false, false, false, false] rfl rfl (by kernel_rfl) (fun _ _ _ h => h) (Or.inl ⟨by rfl, ?_⟩) hHeld ?_ ?_
            · rintro w' s0
              have hc0 := HCE0.out w' s0
              have hc1 := HCE1.out w' s0
              have hc2 := HCE2.out w' s0
              have hc3 := HCE3.out w' s0
              have hc4 := HCE4.out w' s0
              go_simp
            rotate_left
            · simp only [Act.put, List.setIfInBounds_toArray, List.set_cons_zero, List.set_cons_succ]
              rfl
            refine one_ (i := 26) (N := some 123) #[true, true, true, true, true, true, true, true, true, true, true, true, true, true, true, true, true, true, true, true, true, true, true, true, true, true, true, true, false, false, false, false] rfl rfl (by kernel_rfl) (by decide) (fun K hK => ?_)
            refine goes_ Try.func23 (by kernel_rfl) rfl #[vl.val (runD d1 l1).2] (by rfl) rfl rfl (by simp [Act.eval]) ?_
            refine (law_ours wn3 vl (runD d1 l1).2).mono ?_
            rintro e wn4 ⟨rfl, hbl⟩
            refine ⟨_, rfl, hK.out _ _ (S3.trans (hbl.mono (HBS.out _ S3))) (fun hHeld => ?_)⟩
            simp only [Act.put, List.setIfInBounds_toArray, List.set_cons_zero, List.set_cons_succ]
            have S4 := S3.trans (hbl.mono (HBS.out _ S3))
            clear hK hbl S3
            refine one_ (i := 28) (N := some 125) #[true, true, true, true, true, true, true, true, true, true, true, true, true, true, true, true, true, true, true, true, true, true, true, true, true, true, true, true, true, false, false, false] rfl rfl (by kernel_rfl) (by decide) (fun K hK => ?_)
            refine goes_ Try.func23 (by kernel_rfl) rfl #[ve.val (runD d1 l1).2] (by rfl) rfl rfl (by simp [Act.eval]) ?_
            refine (law_ours wn4 ve (runD d1 l1).2).mono ?_
            rintro e wn5 ⟨rfl, hbl⟩
            refine ⟨_, rfl, hK.out _ _ (S4.trans (hbl.mono (HBS.out _ S4))) (fun hHeld => ?_)⟩
            simp only [Act.put, List.setIfInBounds_toArray, List.set_cons_zero, List.set_cons_succ]
            have S5 := S4.trans (hbl.mono (HBS.out _ S4))
            clear hK hbl S4
            refine one_ (i := 29) (N := some 126) #[true, true, true, true, true, true, true, true, true, true, true, true, true, true, true, true, true, true, true, true, true, true, true, true, true, true, true, true, true, true, false, false] rfl rfl (by kernel_rfl) (by decide) (fun K hK => ?_)
            refine goes_ Try.func22 (by kernel_rfl) rfl #[vl.val (runD d1 l1).2, ve.val (runD d1 l1).2] (by rfl) rfl rfl (by simp [Act.eval]) ?_
            refine (ref_Same wn5 vl ve (runD d1 l1).2 (HRL.out _ S5) (HRE.out _ S5) (by have := HFE.out.l0; omega) (by have := HFE.out.e1; have := HFE.out.l0; omega) (by have := HFE.out.e2; have := HFE.out.l0; omega) (by have := HFE.out.l3; omega) (by have := HFE.out.e4; have := HFE.out.l3; omega) (fun r hr => by have := HFE.out.l1 r hr; omega)).mono ?_
            rintro e wn6 ⟨rfl, hbl⟩
            refine ⟨_, rfl, hK.out _ _ (S5.trans (hbl.mono (HBS.out _ S5))) (fun hHeld => ?_)⟩
            simp only [Act.put, List.setIfInBounds_toArray, List.set_cons_zero, List.set_cons_succ]
            have S6 := S5.trans (hbl.mono (HBS.out _ S5))
            clear hK hbl S5
            refine pure_ (i := 30) (N := some 127) (v := ?_) (a' := ?_) #[true, true, true, true, true, true, true, true, true, true, true, true, true, true, true, true, true, true, true, true, true, true, true, true, true, true, true, true, true, true, true, false] rfl rfl (by kernel_rfl) (fun _ _ _ h => h) (Or.inl ⟨by rfl, ?_⟩) ?_ ?_
            rotate_left
            · intro w'
              go_simp
              with_reducible rfl
            rotate_left
            · simp only [Act.put, List.setIfInBounds_toArray, List.set_cons_zero, List.set_cons_succ]
              rfl
            refine pure_ (i := 31) (N := some 2) (v := ?_) (a' := ?_) #[true, true, true, true, true, true, true, true, true, true, true, true, true, true, true, true, true, true, true, true, true, true, true, true, true, true, true, true, true, true, true, true] rfl rfl (by kernel_rfl) (fun _ _ _ h => h) (Or.inl ⟨by rfl, ?_⟩) ?_ ?_
            rotate_left
            · intro w'
              go_simp
              with_reducible rfl
            rotate_left
            · simp only [Act.put, List.setIfInBounds_toArray, List.set_cons_zero, List.set_cons_succ]
              rfl
            refine done_ (by kernel_rfl) ?_
            have HF := Lib.hid (HFIN.out _ S6)
            clear S6 HFIN HBS HRE HRL HR1 HR2 HR3 HK1 HK2 HK3 HXA HXK HFE HCE0 HCL0 HCE1 HCL1 HCE2 HCL2 HCE3 HCL3 HCE4 HCL4
            go_wp2
            exact HQ'.out _ _ ⟨rfl, HF.out⟩
  · have HPE := Lib.hid hE
    have hE2 : (playE d1 l1 == 0) = false := by simpa using hE
    clear hE
    refine start_ (n := 17) (S := fun _ => True) (ds := []) #[false, false, false, false, false, false, false, false, false, false, false, false, false, false, false, false, false] (by kernel_rfl) rfl rfl trivial (fun _ => ?_)
    have HPC0 := Lib.hid (fun w' (hb : Below wB.drew.heap.size wB.drew w') => pw_cell_below (w := wB.drew) hb (HPB2.out.cell 0))
    have HPC1 := Lib.hid (fun w' (hb : Below wB.drew.heap.size wB.drew w') => pw_cell_below (w := wB.drew) hb (HPB2.out.cell 1))
    have HPC2 := Lib.hid (fun w' (hb : Below wB.drew.heap.size wB.drew w') => pw_cell_below (w := wB.drew) hb (HPB2.out.cell 2))
    have HPC3 := Lib.hid (fun w' (hb : Below wB.drew.heap.size wB.drew w') => pw_cell_below (w := wB.drew) hb (HPB2.out.cell 3))
    have HPC4 := Lib.hid (fun w' (hb : Below wB.drew.heap.size wB.drew w') => pw_cell_below (w := wB.drew) hb (HPB2.out.cell 4))
    have HPC5 := Lib.hid (fun w' (hb : Below wB.drew.heap.size wB.drew w') => pw_cell_below (w := wB.drew) hb (HPB2.out.cell 5))
    have HVQ := Lib.hid (fun w' (hb : Below wB.drew.heap.size wB.drew w') => HVB.out w' ⟨hb.os, hb.tape, hb.output, hb.size, hb.block⟩)
    have HAQ := Lib.hid (fun w' (hb : Below wB.drew.heap.size wB.drew w') => HA.out w' (HBB.out.trans ((show Below wB.heap.size wB w' from ⟨hb.os, hb.tape, hb.output, hb.size, hb.block⟩).mono HBB.out.size)))
    have HBQ := Lib.hid (show ∀ w', Below wB.drew.heap.size wB.drew w' → Below wB.heap.size wB w' from fun _ hb => ⟨hb.os, hb.tape, hb.output, hb.size, hb.block⟩)
    have HSQ := Lib.hid (show wB.drew.heap.size = wB.heap.size from rfl)
    have HLB := Lib.hid (And.intro HLL.out.1 HLL.out.2.1)
    have HPL := Lib.hid (show d1.fields.length < 100000000 ∧ d1.states.length < 100000000 ∧ (∀ r ∈ d1.fields, r.length < 100000000) ∧ l1.length < 100000000 from ⟨HLL.out.2.2.1, HLL.out.2.2.2.1, HLL.out.2.2.2.2.1, by omega⟩)
    generalize wB.drew = wq at *
    refine flow_region (md := .any) (w0 := wq) (B := [0, 1, 3, 0, 8, 31, 63, 127, 255, 255, 255, 255, 0, 4607, 13311, 30719, 65535]) [(0, 20), (1, 21), (2, 22), (3, 23), (4, 24), (5, 25), (6, 26), (7, 19), (8, 27), (9, 28), (10, 29), (11, 30), (12, 4), (13, 3), (15, 5), (16, 6)] [14] (fun i b V w' => match i with
        | 0 => V 0 = .pointer (some ⟨pb, 0, none⟩)
        | 1 => V 1 = (v1).val d1
        | 2 => b 14 = true ∨ ∃ v2 : WV, V 2 = v2.val d1 ∧ v2.Reads w' d1
        | 3 => V 3 = .pointer (some ⟨pb, 5, none⟩)
        | 4 => V 4 = .slice A l1.length c
        | 5 => b 14 = true ∨ ∃ A2 c2, V 5 = .slice A2 l1.length c2 ∧ ActsAt w' A2 l1
        | 6 => V 6 = refV (playE d1 l1)
        | 7 => V 7 = V 6
        | 8 => V 8 = tpart 0 (V 6)
        | 9 => V 9 = tpart 1 (V 6)
        | 10 => V 10 = tpart 2 (V 6)
        | 11 => V 11 = tpart 3 (V 6)
        | 12 => ∃ g, V 12 = .pointer (some ⟨g, 0, none⟩) ∧ (b 14 = false → Blk w' g TWD zero5) ∧ wq.heap.size ≤ g
        | 13 => V 13 = tpart 0 (V 6)
        | 15 => V 15 = tpart 2 (V 6)
        | 16 => V 16 = tpart 3 (V 6)
        | 14 => ∃ g, V 12 = .pointer (some ⟨g, 0, none⟩) ∧ Blk w' g TWD (cellsW (V 9)) ∧ wq.heap.size ≤ g
        | _ => True) rfl (by kernel_rfl) (by kernel_rfl) (by kernel_rfl) (by kernel_rfl) (by kernel_rfl) (by kernel_rfl) ?_ ?_ ?_ ?_ ?_
    · intro i hi b b' V V' w' hb h hp
      simp only [List.map_cons, List.map_nil, List.cons_append, List.nil_append, List.mem_cons, List.not_mem_nil, or_false] at hi
      rcases hi with rfl | rfl | rfl | rfl | rfl | rfl | rfl | rfl | rfl | rfl | rfl | rfl | rfl | rfl | rfl | rfl | rfl
      · simp only [← h 0 (.inl rfl)]; exact hp
      · simp only [← h 1 (.inl rfl)]; exact hp
      · simp only [← h 2 (.inl rfl), ← hb 14 (by decide)]; exact hp
      · simp only [← h 3 (.inl rfl)]; exact hp
      · simp only [← h 4 (.inl rfl)]; exact hp
      · simp only [← h 5 (.inl rfl), ← hb 14 (by decide)]; exact hp
      · simp only [← h 6 (.inl rfl)]; exact hp
      · simp only [← h 7 (.inl rfl), ← h 6 (.inr (by kernel_rfl))]; exact hp
      · simp only [← h 8 (.inl rfl), ← h 6 (.inr (by kernel_rfl)), ← h 7 (.inr (by kernel_rfl))]; exact hp
      · simp only [← h 9 (.inl rfl), ← h 6 (.inr (by kernel_rfl)), ← h 7 (.inr (by kernel_rfl))]; exact hp
      · simp only [← h 10 (.inl rfl), ← h 6 (.inr (by kernel_rfl)), ← h 7 (.inr (by kernel_rfl))]; exact hp
      · simp only [← h 11 (.inl rfl), ← h 6 (.inr (by kernel_rfl)), ← h 7 (.inr (by kernel_rfl))]; exact hp
      · simp only [← h 12 (.inl rfl), ← hb 14 (by decide)]; exact hp
      · simp only [← h 13 (.inl rfl), ← h 6 (.inr (by kernel_rfl)), ← h 8 (.inr (by kernel_rfl))]; exact hp
      · simp only [← h 15 (.inl rfl), ← h 6 (.inr (by kernel_rfl)), ← h 10 (.inr (by kernel_rfl))]; exact hp
      · simp only [← h 16 (.inl rfl), ← h 6 (.inr (by kernel_rfl)), ← h 11 (.inr (by kernel_rfl))]; exact hp
      · simp only [← h 14 (.inl rfl), ← h 12 (.inr (by kernel_rfl)), ← h 9 (.inr (by kernel_rfl))]; exact hp
    · intro i hi b V w1 w2 hp hb
      simp only [List.map_cons, List.map_nil, List.cons_append, List.nil_append, List.mem_cons, List.not_mem_nil, or_false] at hi
      rcases hi with rfl | rfl | rfl | rfl | rfl | rfl | rfl | rfl | rfl | rfl | rfl | rfl | rfl | rfl | rfl | rfl | rfl
      · exact hp
      · exact hp
      · exact hp.imp id (fun ⟨v2, h1, h2⟩ => ⟨v2, h1, h2.below hb⟩)
      · exact hp
      · exact hp
      · exact hp.imp id (fun ⟨A2, c2, h1, h2⟩ => ⟨A2, c2, h1, h2.below hb⟩)
      · exact hp
      · exact hp
      · exact hp
      · exact hp
      · exact hp
      · exact hp
      · exact let ⟨g, h1, h2, h3⟩ := hp; ⟨g, h1, fun h => (Fr.of_below0 (S := fun _ => False) hb).blk (h2 h) id, h3⟩
      · exact hp
      · exact hp
      · exact hp
      · exact let ⟨g, h1, h2, h3⟩ := hp; ⟨g, h1, (Fr.of_below0 (S := fun _ => False) hb).blk h2 id, h3⟩
    · intro e he
      simp only [List.map_cons, List.map_nil, List.cons_append, List.nil_append, List.mem_cons, List.not_mem_nil, or_false] at he
      rcases he with rfl | rfl | rfl | rfl | rfl | rfl | rfl | rfl | rfl | rfl | rfl | rfl | rfl | rfl | rfl | rfl
      · intro b V a w' hoff hd ho hB
        have e1 : a.tmps[1]? = some (.pointer (some ⟨pb, 0, none⟩)) := (ho 1 (by decide)).trans rfl
        refine ⟨_, rfl, rfl, fun K hK => ?_⟩
        clear hd ho hoff
        refine value_ (w1 := w') (v := .pointer (some ⟨pb, 0, none⟩)) rfl rfl ?_ (hK.out _ _ (Below.refl _ _) (setV_self _ _ _))
        go_simp
      · intro b V a w' hoff hd ho hB
        obtain ⟨e20, p20⟩ := hd (0, 20) (by decide) (by kernel_rfl)
        rw [show V 0 = .pointer (some ⟨pb, 0, none⟩) from p20] at e20
        have hc0 := HPC0.out w' hB
        have hc1 := HPC1.out w' hB
        have hc2 := HPC2.out w' hB
        have hc3 := HPC3.out w' hB
        have hc4 := HPC4.out w' hB
        refine ⟨_, rfl, rfl, fun K hK => ?_⟩
        clear hd ho hoff
        refine value_ (w1 := w') (v := (v1).val d1) rfl rfl ?_ (hK.out _ _ (Below.refl _ _) (setV_self _ _ _))
        go_simp
      · intro b V a w' hoff hd ho hB
        have hb_ := hoff 14 (by decide) (by kernel_rfl)
        obtain ⟨e21, p21⟩ := hd (1, 21) (by decide) (by kernel_rfl)
        rw [show V 1 = (v1).val d1 from p21] at e21
        refine ⟨_, rfl, rfl, fun K hK => ?_⟩
        refine goes_ Try.func18 (by kernel_rfl) rfl #[(v1).val d1] (by rfl) rfl rfl (by simp [eval_of e21]) ?_
        refine (law_world w' v1 d1 (HVQ.out w' hB) HLB.out.1 HLB.out.2).mono ?_
        rintro e w2 ⟨v2, rfl, hrd, hbl⟩
        exact ⟨_, rfl, hK.out _ _ hbl (.inr ⟨v2, setV_self _ _ _, hrd⟩)⟩
      · intro b V a w' hoff hd ho hB
        have e1 : a.tmps[1]? = some (.pointer (some ⟨pb, 0, none⟩)) := (ho 1 (by decide)).trans rfl
        refine ⟨_, rfl, rfl, fun K hK => ?_⟩
        clear hd ho hoff
        refine value_ (w1 := w') (v := .pointer (some ⟨pb, 5, none⟩)) rfl rfl ?_ (hK.out _ _ (Below.refl _ _) (setV_self _ _ _))
        go_simp
      · intro b V a w' hoff hd ho hB
        obtain ⟨e23, p23⟩ := hd (3, 23) (by decide) (by kernel_rfl)
        rw [show V 3 = .pointer (some ⟨pb, 5, none⟩) from p23] at e23
        have hc5 := HPC5.out w' hB
        refine ⟨_, rfl, rfl, fun K hK => ?_⟩
        clear hd ho hoff
        refine value_ (w1 := w') (v := .slice A l1.length c) rfl rfl ?_ (hK.out _ _ (Below.refl _ _) (setV_self _ _ _))
        go_simp
      · intro b V a w' hoff hd ho hB
        have hb_ := hoff 14 (by decide) (by kernel_rfl)
        obtain ⟨e24, p24⟩ := hd (4, 24) (by decide) (by kernel_rfl)
        rw [show V 4 = .slice A l1.length c from p24] at e24
        refine ⟨_, rfl, rfl, fun K hK => ?_⟩
        refine goes_ Try.func19 (by kernel_rfl) rfl #[.slice A l1.length c] (by rfl) rfl rfl (by simp [eval_of e24]) ?_
        refine (law_acts' w' _ _ _ l1 rfl (HAQ.out w' hB) (by omega)).mono ?_
        rintro e w2 ⟨v2, rfl, hown, hbl⟩
        obtain ⟨A2, c2, rfl, _, hat⟩ := own_acts hown
        exact ⟨_, rfl, hK.out _ _ hbl (.inr ⟨A2, c2, setV_self _ _ _, hat⟩)⟩
      · intro b V a w' hoff hd ho hB
        have hb_ := hoff 14 (by decide) (by kernel_rfl)
        obtain ⟨e22, p22⟩ := hd (2, 22) (by decide) (by kernel_rfl)
        obtain ⟨e25, p25⟩ := hd (5, 25) (by decide) (by kernel_rfl)
        refine ⟨_, rfl, rfl, fun K hK => ?_⟩
        rcases p25 with h | ⟨A2, c2, hv2, hac⟩
        · rw [hb_] at h; cases h
        rw [hv2] at e25
        rcases p22 with h | ⟨v2, hv3, hrd⟩
        · rw [hb_] at h; cases h
        rw [hv3] at e22
        refine goes_ Try.func17 (by kernel_rfl) rfl #[v2.val d1, .slice A2 l1.length c2] (by rfl) rfl rfl (by simp [eval_of e22, eval_of e25]) ?_
        refine (rec_play w' _ d1 hrd HPL.out.1 HPL.out.2.1 HPL.out.2.2.1 A2 c2 l1 hac HPL.out.2.2.2).mono ?_
        rintro e w2 ⟨hbl, hpp⟩
        rcases hpp with ⟨_, rfl⟩ | ⟨h, _⟩
        · exact ⟨_, rfl, hK.out _ _ hbl (setV_self _ _ _)⟩
        · exact absurd h HPE.out
      · intro b V a w' hoff hd ho hB
        obtain ⟨e26, p26⟩ := hd (6, 26) (by decide) (by kernel_rfl)
        refine ⟨_, rfl, rfl, fun K hK => ?_⟩
        refine value_ (w1 := w') (v := V 6) rfl rfl ?_ (hK.out _ _ (Below.refl _ _) (by show setV V 7 (V 6) 7 = setV V 7 (V 6) 6; rw [setV_self, setV_ne _ _ (by decide)]))
        clear hK hd ho
        rw [p26] at e26 ⊢
        go_simp
      · intro b V a w' hoff hd ho hB
        obtain ⟨e19, p19⟩ := hd (7, 19) (by decide) (by kernel_rfl)
        have p_ := (hd (6, 26) (by decide) (by kernel_rfl)).2
        refine ⟨_, rfl, rfl, fun K hK => ?_⟩
        refine value_ (w1 := w') (v := tpart 0 (V 6)) rfl rfl ?_ (hK.out _ _ (Below.refl _ _) (by show setV V 8 _ 8 = tpart 0 (setV V 8 _ 6); rw [setV_self, setV_ne _ _ (by decide)]))
        clear hK hd ho
        rw [p19, p_] at e19
        rw [p_]
        show (execOp a.eval _).run _ _ = .ok (.value nilV) w'
        go_simp
      · intro b V a w' hoff hd ho hB
        obtain ⟨e19, p19⟩ := hd (7, 19) (by decide) (by kernel_rfl)
        have p_ := (hd (6, 26) (by decide) (by kernel_rfl)).2
        refine ⟨_, rfl, rfl, fun K hK => ?_⟩
        refine value_ (w1 := w') (v := tpart 1 (V 6)) rfl rfl ?_ (hK.out _ _ (Below.refl _ _) (by show setV V 9 _ 9 = tpart 1 (setV V 9 _ 6); rw [setV_self, setV_ne _ _ (by decide)]))
        clear hK hd ho
        rw [p19, p_] at e19
        rw [p_]
        show (execOp a.eval _).run _ _ = .ok (.value nilW) w'
        go_simp
      · intro b V a w' hoff hd ho hB
        obtain ⟨e19, p19⟩ := hd (7, 19) (by decide) (by kernel_rfl)
        have p_ := (hd (6, 26) (by decide) (by kernel_rfl)).2
        refine ⟨_, rfl, rfl, fun K hK => ?_⟩
        refine value_ (w1 := w') (v := tpart 2 (V 6)) rfl rfl ?_ (hK.out _ _ (Below.refl _ _) (by show setV V 10 _ 10 = tpart 2 (setV V 10 _ 6); rw [setV_self, setV_ne _ _ (by decide)]))
        clear hK hd ho
        rw [p19, p_] at e19
        rw [p_]
        show (execOp a.eval _).run _ _ = .ok (.value nilV) w'
        go_simp
      · intro b V a w' hoff hd ho hB
        obtain ⟨e19, p19⟩ := hd (7, 19) (by decide) (by kernel_rfl)
        have p_ := (hd (6, 26) (by decide) (by kernel_rfl)).2
        refine ⟨_, rfl, rfl, fun K hK => ?_⟩
        refine value_ (w1 := w') (v := tpart 3 (V 6)) rfl rfl ?_ (hK.out _ _ (Below.refl _ _) (by show setV V 11 _ 11 = tpart 3 (setV V 11 _ 6); rw [setV_self, setV_ne _ _ (by decide)]))
        clear hK hd ho
        rw [p19, p_] at e19
        rw [p_]
        show (execOp a.eval _).run _ _ = .ok (.value (.int .i64 (playE d1 l1))) w'
        go_simp
      · intro b V a w' hoff hd ho hB
        have hb_ := hoff 14 (by decide) (by kernel_rfl)
        refine ⟨_, rfl, rfl, fun K hK => ?_⟩
        refine value_ (w1 := w'.alloc (.cells zero5.toArray TWD)) (v := .pointer (some ⟨w'.heap.size, 0, none⟩)) rfl rfl ?_ (hK.out _ _ ((Below.refl _ _).alloc (Nat.le_refl _) _) ⟨w'.heap.size, setV_self _ _ _, fun _ => Blk.new w' TWD zero5, hB.size⟩)
        clear hd ho hK
        go_simp
      · intro b V a w' hoff hd ho hB
        obtain ⟨e27, p27⟩ := hd (8, 27) (by decide) (by kernel_rfl)
        have p_ := (hd (6, 26) (by decide) (by kernel_rfl)).2
        refine ⟨_, rfl, rfl, fun K hK => ?_⟩
        refine value_ (w1 := w') (v := tpart 0 (V 6)) rfl rfl ?_ (hK.out _ _ (Below.refl _ _) (by show setV V 13 _ 13 = tpart 0 (setV V 13 _ 6); rw [setV_self, setV_ne _ _ (by decide)]))
        clear hK hd ho
        rw [p27, p_] at e27
        change a.tmps[27]? = some nilV at e27
        rw [p_]
        show (execOp a.eval _).run _ _ = .ok (.value nilV) w'
        go_simp
      · intro b V a w' hoff hd ho hB
        obtain ⟨e29, p29⟩ := hd (10, 29) (by decide) (by kernel_rfl)
        have p_ := (hd (6, 26) (by decide) (by kernel_rfl)).2
        refine ⟨_, rfl, rfl, fun K hK => ?_⟩
        refine value_ (w1 := w') (v := tpart 2 (V 6)) rfl rfl ?_ (hK.out _ _ (Below.refl _ _) (by show setV V 15 _ 15 = tpart 2 (setV V 15 _ 6); rw [setV_self, setV_ne _ _ (by decide)]))
        clear hK hd ho
        rw [p29, p_] at e29
        change a.tmps[29]? = some nilV at e29
        rw [p_]
        show (execOp a.eval _).run _ _ = .ok (.value nilV) w'
        go_simp
      · intro b V a w' hoff hd ho hB
        obtain ⟨e30, p30⟩ := hd (11, 30) (by decide) (by kernel_rfl)
        have p_ := (hd (6, 26) (by decide) (by kernel_rfl)).2
        refine ⟨_, rfl, rfl, fun K hK => ?_⟩
        refine value_ (w1 := w') (v := tpart 3 (V 6)) rfl rfl ?_ (hK.out _ _ (Below.refl _ _) (by show setV V 16 _ 16 = tpart 3 (setV V 16 _ 6); rw [setV_self, setV_ne _ _ (by decide)]))
        clear hK hd ho
        rw [p30, p_] at e30
        change a.tmps[30]? = some (.int .i64 (playE d1 l1)) at e30
        rw [p_]
        show (execOp a.eval _).run _ _ = .ok (.value (.int .i64 (playE d1 l1))) w'
        go_simp
    · intro s hs
      simp only [List.map_cons, List.map_nil, List.cons_append, List.nil_append, List.mem_cons, List.not_mem_nil, or_false] at hs
      subst hs
      · intro b V a w' hb_ hd ho hB
        obtain ⟨e4, p4⟩ := hd (12, 4) (by decide) (by kernel_rfl)
        obtain ⟨e28, p28⟩ := hd (9, 28) (by decide) (by kernel_rfl)
        obtain ⟨e26, p26⟩ := hd (6, 26) (by decide) (by kernel_rfl)
        refine ⟨_, rfl, rfl, fun K hK => ?_⟩
        obtain ⟨g, hg, hgz0, hgl⟩ := p4
        have hgz := hgz0 hb_
        rw [hg] at e4
        have p_ := (hd (6, 26) (by decide) (by kernel_rfl)).2
        have hx : V 9 = nilW := by rw [p28, p_]; rfl
        rw [hx] at e28
        have hst := run_store_run (P := Try.prog) (w := w') (g := g) (o := 0) TWD nilW zero5 hgz rfl wsize (by simp [zero5]) (by intro q hq; simp only [List.mem_cons, List.not_mem_nil, or_false] at hq; rcases hq with rfl | rfl | rfl | rfl | rfl <;> rfl)
        obtain ⟨hbz, hfz⟩ := res_end hgz (.slice none 0 0) (.slice none 0 0) (.slice none 0 0) (.slice none 0 0) (.slice none 0 0) _ rfl
        refine skip_ (by rfl) rfl (store_exec rfl (eval_of e4) (eval_of e28) hst) (hK.out _ (hB.trans (hfz.below hB.size (fun k hk => by rw [hk]; exact hgl))) ⟨g, hg, by rw [hx]; exact hbz, hgl⟩ (fun i hi hne hbi hp => ?_))
        simp only [List.map_cons, List.map_nil, List.cons_append, List.nil_append, List.mem_cons, List.not_mem_nil, or_false] at hi
        rcases hi with rfl | rfl | rfl | rfl | rfl | rfl | rfl | rfl | rfl | rfl | rfl | rfl | rfl | rfl | rfl | rfl | rfl
        · exact hp
        · exact hp
        · exact .inl (up_self _ _)
        · exact hp
        · exact hp
        · exact .inl (up_self _ _)
        · exact hp
        · exact hp
        · exact hp
        · exact hp
        · exact hp
        · exact hp
        · obtain ⟨g2, k1, _, k3⟩ := hp; exact ⟨g2, k1, fun h => absurd ((up_self b _).symm.trans h) (by decide), k3⟩
        · exact hp
        · exact hp
        · exact hp
        · exact absurd rfl hne
    · intro b V a w' hball hfr hB hP
      have hb14 := hball 14 (by decide)
      have P0 := hP 0 (by decide)
      have P1 := hP 1 (by decide)
      have P2 := hP 2 (by decide)
      have P3 := hP 3 (by decide)
      have P4 := hP 4 (by decide)
      have P5 := hP 5 (by decide)
      have P6 := hP 6 (by decide)
      have P7 := hP 7 (by decide)
      have P8 := hP 8 (by decide)
      have P9 := hP 9 (by decide)
      have P10 := hP 10 (by decide)
      have P11 := hP 11 (by decide)
      have P12 := hP 12 (by decide)
      have P13 := hP 13 (by decide)
      have P15 := hP 15 (by decide)
      have P16 := hP 16 (by decide)
      have P14 := hP 14 (by decide)
      clear hP hball
      obtain ⟨g, hg, hgb, hgl⟩ := P14
      have x0 : V 13 = nilV := by rw [P13, P6]; rfl
      have x1 : V 9 = nilW := by rw [P9, P6]; rfl
      have x2 : V 15 = nilV := by rw [P15, P6]; rfl
      have x3 : V 16 = .int .i64 (playE d1 l1) := by rw [P16, P6]; rfl
      rw [x1] at hgb
      subst hfr
      simp only [vrows, List.map_cons, List.map_nil, putSel, if_true, Act.put, List.setIfInBounds_toArray, List.set_cons_zero, List.set_cons_succ]
      rw [hg, x0, x2, x3]
      have HF := Lib.hid (HBB.out.trans ((HBQ.out _ hB).mono HBB.out.size))
      have hg0 := hgb.cell 0
      have hg3 := hgb.cell 3
      simp only [cellsW, List.getElem?_cons_zero, List.getElem?_cons_succ] at hg0 hg3
      generalize playE d1 l1 = ee at *
      clear P0 P1 P2 P3 P4 P5 P6 P7 P8 P9 P10 P11 P12 P13 P15 P16 x0 x1 x2 x3 hg hgb hgl hB HBQ HSQ HVQ HAQ HPC0 HPC1 HPC2 HPC3 HPC4 HPC5 HPB2 HVB HBB
      go_wp2
      exact HQ'.out _ _ ⟨rfl, HF.out⟩
end Go.Proofs.Ytphhdmopfmelbaa
