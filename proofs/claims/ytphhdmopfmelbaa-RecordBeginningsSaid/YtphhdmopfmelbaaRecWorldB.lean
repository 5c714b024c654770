/- record: world(): the walk. -/
import Derived.Test.YtphhdmopfmelbaaRecWorldA
namespace Go.Proofs.Ytphhdmopfmelbaa
open Go.RowKit Go.Proofs.YtphhdmopfmelbaaW.PrintWords
set_option linter.unusedVariables false
set_option linter.unusedSimpArgs false

theorem markedn {R : Nat → Option RecO} {X : Nat → Option ScxO} {w : World} (h : Repint w R X)  (b : Nat) (o : RecO) (ho : R b = some o) :
    Calls Try.prog 97 #[pv (some b), .nilIface] w fun e w' => e = .returned (.bool o.mark) ∧ w = w' := by
  cases hm : o.mark
  · exact markedn_false_int R X w h b o ho hm
  · exact markedn_true_int R X w h b o ho hm
theorem allfrozenn {R : Nat → Option RecO} {X : Nat → Option ScxO} {w : World} (h : Repint w R X)  (b : Nat) (o : ScxO) (ho : X b = some o) :
    Calls Try.prog 72 #[pv (some b), .nilIface] w fun e w' => e = .returned (.bool o.frozen) ∧ w = w' := by
  cases hm : o.frozen
  · exact allfrozenn_false_int R X w h b o ho hm
  · exact allfrozenn_true_int R X w h b o ho hm
def zeros (n : Nat) : Array Value := (List.replicate n (.int .i64 0)).toArray
theorem zeros_blk (w : World) (E n : Nat) : Blk (w.alloc (.cells (zeros n) E)) w.heap.size E (List.replicate n (.int .i64 0)) := Blk.new w E _
theorem run_make_zeros {P : Program} {t e : TypeId} {z : Value} {by_ : Nat} (ht : P.underlying t = some (.slice e)) (hinfo : (P.info? e).map (fun i => (i.zero, i.size, i.bytes)) = some (some z, 1, by_)) (hz : z.cells = #[.int .i64 0])
    (n : Nat) (hb : by_ * n ≤ 281474976710656) (h63 : n ≤ 9223372036854775807) (w : World) :
    (Instr.makeSlice t (.int .i64 (n : Int)) (.int .i64 (n : Int))).run P w = .ok (.slice (some ⟨w.heap.size, 0, none⟩) n n) (w.alloc (.cells (zeros n) e)) := by
  obtain ⟨i, hi, hzz⟩ := Option.map_eq_some_iff.1 hinfo
  simp only [Prod.mk.injEq] at hzz
  obtain ⟨hz0, hs, hbb⟩ := hzz
  have hb' : (i.bytes : Int) * (n : Int) ≤ 281474976710656 := by
    rw [hbb]
    have h : ((by_ * n : Nat) : Int) ≤ 281474976710656 := by omega
    rwa [Int.natCast_mul] at h
  have hr := run_make (P := P) w t e i z ht hi hz0 .i64 .i64 n n (by omega) (Int.le_refl _) hb' (by omega)
  rw [hr]
  simp only [Int.toNat_natCast, hs, Nat.mul_one, hz]
  congr 2
  have : madeCells #[.int .i64 0] n = zeros n := by
    apply Array.toList_inj.1
    rw [toList_madeCells_one]
    simp [zeros]
  rw [this]
/-- The row while it is filled: q numbers stand, noughts behind. -/
def part (row : List Int) (q : Nat) : List Value := (row.take q).map (Value.int .i64) ++ List.replicate (row.length - q) (.int .i64 0)
theorem part_zero (row : List Int) : part row 0 = List.replicate row.length (.int .i64 0) := by simp [part]
theorem part_all (row : List Int) : part row row.length = row.map (Value.int .i64) := by simp [part]
theorem part_set (row : List Int) (q : Nat) (hq : q < row.length) : (part row q).set q (.int .i64 row[q]) = part row (q + 1) := by
  unfold part
  rw [List.set_append_right _ _ (by simp; omega)]
  simp only [List.length_map, List.length_take, Nat.min_eq_left (Nat.le_of_lt hq), Nat.sub_self]
  rw [show row.length - q = (row.length - (q + 1)) + 1 by omega, List.replicate_succ, List.set_cons_zero, List.take_add_one, List.getElem?_eq_getElem hq, List.map_append, List.append_assoc]
  rfl
theorem part_len (row : List Int) (q : Nat) (hq : q ≤ row.length) : (part row q).length = row.length := by simp [part]; omega

theorem own_of_blk {w : World} {b B : Nat} {r : List Int} (h : Blk w b TII (r.map (Value.int .i64))) (hB : B ≤ b) (hl : r.length ≤ 1000) : w.ownsRow B TII 1 (rowv b r) r.length (r.map (Value.int .i64)) :=
  ⟨by simp, .inr ⟨b, r.length, _, rfl, hB, h, Nat.le_refl _, by simp only [maxLen]; omega, by simp, by rw [Nat.mul_one]; exact List.take_of_length_le (by simp)⟩⟩
/-- After j records. -/
def WI1 (w : World) (d : WD) (j : Nat) (wr : World) : Prop :=
  ∃ fv iv mv bs, WAt w ⟨d.fields.take j, d.infos.take j, d.marks.take j, [], []⟩ fv iv mv (.slice none 0 0) (.slice none 0 0) bs wr
/-- In record j, after q fields. -/
def WI2 (w : World) (d : WD) (j nb : Nat) (row : List Int) (fv iv mv : Value) (bs : List Value) (q : Nat) (wr : World) : Prop :=
  WAt w ⟨d.fields.take j, d.infos.take j, d.marks.take j, [], []⟩ fv iv mv (.slice none 0 0) (.slice none 0 0) bs wr ∧ Blk wr nb TII (part row q)
/-- After j SCX-records. -/
def WI3 (w : World) (d : WD) (j : Nat) (wr : World) : Prop :=
  ∃ fv iv mv sv zv bs, WAt w ⟨d.fields, d.infos, d.marks, d.states.take j, d.frozen.take j⟩ fv iv mv sv zv bs wr
theorem take_one {α : Type} (l : List α) (j : Nat) (h : j < l.length) : l.take j ++ [l[j]] = l.take (j + 1) := (List.take_succ_eq_append_getElem h).symm

theorem wsize : (Try.prog.info? 36).map (·.size) = some 5 := by kernel_rfl
set_option maxHeartbeats 4000000 in
set_option maxRecDepth 100000 in
theorem rec_world {d : WD} {B m : Nat} {w : World} {R : Nat → Option RecO} {X : Nat → Option ScxO} {rs fs xs : List Nat} {v1 v2 v3 : Value} (h : LiveAt d B m w R X rs fs xs v1 v2 v3) (hfo : d.Form) :
    Calls Try.prog 42 #[.pointer (some ⟨m, 0, none⟩)] w fun e w' => ∃ fv iv mv sv zv bs, e = .returned (.agg #[fv, iv, mv, sv, zv]) ∧ Below w.heap.size w w' ∧ OutW w.heap.size d fv iv mv sv zv bs w' := by
  refine calls_hide fun Q HQ => ?_
  have HQ' := Lib.hid HQ
  have HH := Lib.hid h
  have HF := Lib.hid hfo
  have HST := Lib.hid (WAt.start w)
  have HRL := Lib.hid h.hr
  have hr64 : rs.length ≤ 64 := by rw [h.hr]; exact hfo.l0
  have hx64 : xs.length ≤ 64 := by rw [h.hx]; exact hfo.l3
  obtain ⟨A1, k1, hv1, _, _⟩ := owns_slice h.made.o1
  obtain ⟨A3, k3, hv3, _, _⟩ := owns_slice h.made.o3
  have HV1 := Lib.hid hv1
  have HV3 := Lib.hid hv3
  have hmk := fun n (hn : n ≤ 64) w => run_make_zeros (P := Try.prog) (t := 23) Try.underlying23 pinfo_int rfl n (by omega) (by omega) w
  have HMK := Lib.hid hmk
  have hm0 : w.cell? ⟨m, 0, none⟩ = some (.slice A1 rs.length k1) := by rw [h.made.blk.cell, hv1]; rfl
  have hm2 : w.cell? ⟨m, 2, none⟩ = some (.slice A3 xs.length k3) := by rw [h.made.blk.cell, hv3]; rfl
  have HM0 := Lib.hid hm0
  have HM2 := Lib.hid hm2
  have hm0a := pw_cell_below HST.out.below hm0
  clear HQ h hfo hv1 hv3 hmk hm0 hm2
  go_enter Try.func42, Try.ntmps42
  go_wp2
  go_loopw [15] (fun k wr => ∃ j : Nat, j ≤ rs.length ∧ k = .int .i64 j ∧ WI1 w d j wr) (fun k _ => rs.length - (intOf k).toNat)
  case atStart => exact ⟨0, Nat.zero_le _, rfl, _, _, _, _, HST.out⟩
  case round =>
    clear HST hm0a
    obtain ⟨j, hj, rfl, fv, iv, mv, bs, hW⟩ := hrel
    have HW := Lib.hid hW
    clear hW
    by_cases hlt : j < rs.length
    · have hjd : j < d.fields.length := by rw [← HRL.out]; exact hlt
      obtain ⟨b0, k0, hv, hcell⟩ := owns_at HH.out.made.o1 hlt
      rw [HV1.out] at hv
      have hA1 := (Value.slice.inj hv).1
      subst hA1
      obtain ⟨q, fb, hq, hR, hfb⟩ := HH.out.row hjd
      rw [hq] at hcell
      have hcell1 : _ = some (Value.pointer (some ⟨q, 0, none⟩)) := pw_cell_below HW.out.below hcell
      have HD := Lib.hid (show d.fields.getD j [] = d.fields[j] by simp [List.getD_eq_getElem?_getD, List.getElem?_eq_getElem hjd])
      have HR := Lib.hid hR
      have hl64 := HF.out.l1 d.fields[j] (List.getElem_mem hjd)
      have hLEN := len_int R X wr (HH.out.below HW.out.below).stage.rep q _ hR
      simp only [List.length_map, HD.out] at hLEN
      have HLEN := Lib.hid hLEN
      have hmk := HMK.out d.fields[j].length hl64 wr
      have hn64 : d.fields[j].length ≤ 64 := hl64
      have HFO := Lib.hid (HF.out.hF d.fields[j] (List.getElem_mem hjd))
      have HFI := Lib.hid (HF.out.hI _ (getD_mem (show j < d.infos.length by rw [HF.out.e1]; exact hjd) 0))
      have HTK := Lib.hid (take_one d.fields j hjd)
      generalize d.fields[j] = row at *
      have HNB := Lib.hid (show ¬ OutFoot fv iv mv (.slice none 0 0) (.slice none 0 0) bs wr.heap.size from fun e => by have := (HW.out.out.foot e).2.1; omega)
      have hba : Below wr.heap.size wr (wr.alloc (.cells (zeros row.length) 3)) := (Below.refl wr.heap.size wr).alloc (Nat.le_refl _) _
      have HS2 := Lib.hid (show WI2 w d j wr.heap.size row fv iv mv bs 0 (wr.alloc (.cells (zeros row.length) 3)) from ⟨HW.out.more hba, by rw [part_zero]; exact zeros_blk _ _ _⟩)
      have HLO := Lib.hid HW.out.below.size
      clear hv hcell hR hq hLEN hba HW
      go_wp2_with fail
      refine HLEN.out.mono ?_
      rintro e w1 ⟨rfl, rfl⟩
      go_wp2
      clear hmk hcell1 HLEN
      generalize wr.heap.size = nb at *
      go_loopw [24] (fun k wr => ∃ p : Nat, p ≤ row.length ∧ k = .int .i64 p ∧ WI2 w d j nb row fv iv mv bs p wr) (fun k _ => row.length - (intOf k).toNat)
      case atStart => exact ⟨0, Nat.zero_le _, rfl, HS2.out⟩
      case round =>
        clear HS2
        obtain ⟨p, hp, rfl, hW, hB⟩ := hrel
        have HW := Lib.hid hW
        have HB := Lib.hid hB
        clear hW hB
        by_cases hltp : p < row.length
        · have HLd := HH.out.below HW.out.drew.below
          have hn := HFO.out row[p] (List.getElem_mem hltp)
          have hget := getn_int R X _ HLd.stage.rep q _ HR.out p (by omega) (by simp only [List.length_map, HD.out]; omega)
          have hg2 : ((d.fields.getD j []).map (rp rs)).getD (p : Int).toNat none = rp rs row[p] := by
            rw [Int.toNat_natCast, getD_map _ _ _ 0 _ (by rw [HD.out]; exact hltp), HD.out, List.getD_eq_getElem?_getD, List.getElem?_eq_getElem hltp]; rfl
          simp only at hget
          rw [hg2] at hget
          have HGET := Lib.hid (calls_swap hget)
          have hidx := index_rs HLd HV1.out (by have := HRL.out; have := HF.out.l0; omega) (rp rs row[p]) (HLd.stage.okR _)
          rw [idx_rp HLd.stage.ndr hn.1 (by have := HRL.out; omega)] at hidx
          have HIDX := Lib.hid (calls_swap hidx)
          have HPS := Lib.hid (part_set row p hltp)
          have hcf : wr.cell? ⟨nb, p, none⟩ = some (.int .i64 0) := by
            rw [HB.out.cell]; unfold part
            have e : ((row.take p).map (Value.int .i64)).length = p := by simp; omega
            rw [List.getElem?_append_right (by omega), e, Nat.sub_self, List.getElem?_replicate, if_pos (by omega)]
          have hfr : wr.frozen? ⟨nb, p, none⟩ = false := HB.out.free _ rfl
          have hm0 := pw_cell_below HW.out.below HM0.out
          generalize row[p] = n at *
          clear hget hg2 hidx HLd hn
          go_wp2
          refine wp_region_still_tail 11 (by kernel_rfl) (by kernel_rfl) ?_
          simp only [List.take_succ_cons, List.take_zero, List.drop_succ_cons, List.drop_zero]
          iterate 8 still_step
          still_call (HGET.out)
          still_call (HIDX.out)
          still_step
          refine wpStill_nil ?_
          change wpList _ _ _ _ _ wr.drew
          have HB2 := Lib.hid (show WI2 w d j nb row fv iv mv bs (p + 1) (wr.drew.setCell ⟨nb, p, none⟩ (.int .i64 n)) from
            ⟨HW.out.drew.fr ((Fr.refl wr.drew _).setCell _ _ (fun _ => rfl)) (show Blk wr.drew nb TII (part row p) from HB.out) (by decide) HNB.out HLO.out, by rw [← HPS.out]; exact (show Blk wr.drew nb TII (part row p) from HB.out).set p _⟩)
          clear HB HW HGET HIDX HPS
          have hcf2 : wr.drew.cell? ⟨nb, p, none⟩ = some (.int .i64 0) := hcf
          have hfr2 : wr.drew.frozen? ⟨nb, p, none⟩ = false := hfr
          clear hm0 hcf hfr
          generalize wr.drew = wz at *
          go_wp2
          go_roundw
          case rel => exact ⟨p + 1, by omega, by go_num, HB2.out⟩
          case measure => simp [intOf]; omega
        · have hpe : p = row.length := by omega
          subst hpe
          have hlj : (d.fields.take j).length = j := by simp; omega
          have hli : (d.infos.take j).length = j := by have := HF.out.e1; simp; omega
          have hlm : (d.marks.take j).length = j := by have := HF.out.e2; simp; omega
          have HLJ := Lib.hid hlj
          have HLI := Lib.hid hli
          have HLM := Lib.hid hlm
          have hof := HW.out.out.f
          simp only [hlj] at hof
          have HOF := Lib.hid hof
          have hk0 : wr.cell? ⟨w.heap.size + 1, 0, none⟩ = some fv := HW.out.box.cell 0
          clear hlj hli hlm hof hltp hp
          go_wp2_with (at_builtin; refine print_append_cells w.heap.size rfl _ _ 22 23 (.slice none 0 0) 1 24 rfl Try.underlying22 pinfo_row rfl (by decide) (by decide) fv j _ [rowv nb row] rfl rfl rfl (by simp [Value.oneCell']) HOF.out HW.out.below HW.out.below.size (by have := HF.out.l0; omega) ?_)
          intro a1 w1 hown1 hb1 hg1 hat1
          obtain ⟨hc1, hf1, A1', c1', hv1⟩ := HW.out.after HOF.out (by decide) hg1 (j := 0) rfl hown1
          have hnb2 : ∀ k, (rowv nb row).ownBlock = some k → ¬ OutFoot fv iv mv (.slice none 0 0) (.slice none 0 0) bs k := by
            intro k hk
            have e : nb = k := by simpa [Value.ownBlock] using hk
            exact e ▸ HNB.out
          have HW1 := Lib.hid (HW.out.pushF hg1 (own_of_blk (by rw [← part_all]; exact HB.out) HLO.out (by have := hn64; omega)) hnb2 (by simp only [HLJ.out]; exact hown1))
          clear hown1 hb1 hg1 hat1 hk0 HW HOF HB HNB hnb2
          subst hv1
          simp only [HTK.out] at HW1
          go_wp2
          generalize (w1.setCell ⟨w.heap.size + 1, 0, none⟩ (.slice A1' (j + 1) c1')) = wq at *
          clear hc1 hf1
          have HWq := Lib.hid HW1.out.drew
          have HLq := Lib.hid (HH.out.below HWq.out.below)
          have hji : j < d.infos.length := by rw [HF.out.e1]; exact hjd
          have hn := HFI.out
          have hinf := infon_int R X wq.drew HLq.out.stage.rep q _ HR.out
          have hidx := index_xs HLq.out HV3.out (by have := HLq.out.hx; have := HF.out.l3; omega) (ip fs xs j (d.infos.getD j 0)) (HLq.out.stage.rep.okInfo HR.out)
          rw [idx_ip HLq.out.stage.ndx (by omega) (by have := HLq.out.hr; have := HLq.out.stage.len; omega) hn.1 (by have := HLq.out.hx; omega)] at hidx
          have HTI := Lib.hid (show d.infos.take j ++ [d.infos.getD j 0] = d.infos.take (j + 1) by rw [← take_one d.infos j hji]; simp [List.getD_eq_getElem?_getD, List.getElem?_eq_getElem hji])
          simp only at hinf
          generalize ip fs xs j (d.infos.getD j 0) = px at *
          generalize d.infos.getD j 0 = n at *
          have HINF := Lib.hid (calls_swap hinf)
          have HIDX := Lib.hid (calls_swap hidx)
          have hoi := HWq.out.out.i
          simp only [HLI.out] at hoi
          have HOI := Lib.hid hoi
          have hk1 : wq.cell? ⟨w.heap.size + 1, 1, none⟩ = some iv := HWq.out.box.cell 1
          have hk2 : (wq.alloc (Obj.cells #[.int .i64 n] 3)).cell? ⟨w.heap.size + 1, 1, none⟩ = some iv := cell_alloc_drew _ hk1
          have hm2 : wq.cell? ⟨m, 2, none⟩ = some (.slice A3 xs.length k3) := pw_cell_below HWq.out.below HM2.out
          clear hinf hidx hn hoi hji
          apply cut_post (N := fun A k w' => WAt w ⟨d.fields.take (j + 1), d.infos.take (j + 1), d.marks.take j, [], []⟩ (.slice A1' (j + 1) c1') (.slice A (j + 1) k) mv (.slice none 0 0) (.slice none 0 0) (bs ++ [rowv nb row]) w')
          case h1 =>
            --[
            go_region_law (first
              | (go_simp; go_at_call 71; refine HINF.out.mono ?_; rintro e w' ⟨rfl, rfl⟩)
              | (go_simp; go_at_call 96; refine HIDX.out.mono ?_; rintro e w' ⟨rfl, rfl⟩)
              | (refine step_append_cells (W := wq.drew) w.heap.size (by rfl) _ _ 23 3 (.int .i64 0) 1 8 rfl Try.underlying23 pinfo_int rfl (by decide) (by decide) iv j _ [.int .i64 n] rfl rfl rfl (by simp [Value.oneCell']) HOI.out HWq.out.below HWq.out.below.size (by have := HF.out.l0; omega) ?_
                 intro a2 w3 hown2 hb2 hg2 hat2
                 have HW3 := Lib.hid (HWq.out.pushI hg2 (by simp only [HLI.out]; exact hown2) hat2)
                 obtain ⟨hc2, hf2, A2', c2', hv2⟩ := HWq.out.after HOI.out (by decide) hg2 (j := 1) rfl hown2
                 clear hown2 hb2 hg2 hat2
                 subst hv2
                 simp only [HTI.out] at HW3))
            all_goals exact ⟨_, _, rfl, HW3.out⟩
            --]
          case h2 =>
            intro A2' c2' wq2 hW2
            have HW2 := Lib.hid hW2
            clear hW2 hk1 hk2 hm2 HINF HIDX HOI HW1 HWq HLq
            go_wp2
            have HWr := Lib.hid HW2.out.drew
            have HLr := Lib.hid (HH.out.below HWr.out.below)
            have hjm : j < d.marks.length := by rw [HF.out.e2]; exact hjd
            have hmk := markedn HLr.out.stage.rep q _ HR.out
            have HTM := Lib.hid (show d.marks.take j ++ [d.marks.getD j false] = d.marks.take (j + 1) by rw [← take_one d.marks j hjm]; simp [List.getD_eq_getElem?_getD, List.getElem?_eq_getElem hjm])
            simp only at hmk
            generalize d.marks.getD j false = mk at *
            have HMARK := Lib.hid (calls_swap hmk)
            have hom := HWr.out.out.m
            simp only [HLM.out] at hom
            have HOM := Lib.hid hom
            have hk1 : wq2.cell? ⟨w.heap.size + 1, 2, none⟩ = some mv := HWr.out.box.cell 2
            have hk2 : (wq2.alloc (Obj.cells #[.bool mk] 4)).cell? ⟨w.heap.size + 1, 2, none⟩ = some mv := cell_alloc_drew _ hk1
            clear hmk hom hjm
            apply cut_post (N := fun A k w' => WAt w ⟨d.fields.take (j + 1), d.infos.take (j + 1), d.marks.take (j + 1), [], []⟩ (.slice A1' (j + 1) c1') (.slice A2' (j + 1) c2') (.slice A (j + 1) k) (.slice none 0 0) (.slice none 0 0) (bs ++ [rowv nb row]) w')
            case h1 =>
              --[
              go_region_law (first
                | (go_simp; go_at_call 97; refine HMARK.out.mono ?_; rintro e w' ⟨rfl, rfl⟩)
                | (refine step_append_cells (W := wq2.drew) w.heap.size (by rfl) _ _ 24 4 (.bool false) 1 1 rfl Try.underlying24 pinfo_bool rfl (by decide) (by decide) mv j _ [.bool mk] rfl rfl rfl (by simp [Value.oneCell']) HOM.out HWr.out.below HWr.out.below.size (by have := HF.out.l0; omega) ?_
                   intro a2 w3 hown2 hb2 hg2 hat2
                   have HW3 := Lib.hid (HWr.out.pushM hg2 (by simp only [HLM.out]; exact hown2) hat2)
                   obtain ⟨hc2, hf2, A3', c3', hv2⟩ := HWr.out.after HOM.out (by decide) hg2 (j := 2) rfl hown2
                   clear hown2 hb2 hg2 hat2
                   subst hv2
                   simp only [HTM.out] at HW3))
              all_goals exact ⟨_, _, rfl, HW3.out⟩
              --]
            case h2 =>
              intro A3' c3' wq3 hW3
              have HW4 := Lib.hid hW3
              clear hW3 hk1 hk2 HMARK HOM HW2 HWr HLr
              go_wp2
              go_roundw
              case rel => exact ⟨j + 1, by omega, by go_num, _, _, _, _, HW4.out⟩
              case measure => simp [intOf]; omega
    · have hje : j = rs.length := by omega
      subst hje
      have HS3 := Lib.hid (show WI3 w d 0 wr from ⟨fv, iv, mv, _, _, bs, by
        have h1 := HW.out
        rw [List.take_of_length_le (by rw [HRL.out]; exact Nat.le_refl _), List.take_of_length_le (by rw [HF.out.e1, HRL.out]; exact Nat.le_refl _), List.take_of_length_le (by rw [HF.out.e2, HRL.out]; exact Nat.le_refl _)] at h1
        exact h1⟩)
      have hm2 := pw_cell_below HW.out.below HM2.out
      clear HW hlt hj
      go_wp2
      go_loopw [70] (fun k wr => ∃ j : Nat, j ≤ xs.length ∧ k = .int .i64 j ∧ WI3 w d j wr) (fun k _ => xs.length - (intOf k).toNat)
      case atStart => exact ⟨0, Nat.zero_le _, rfl, HS3.out⟩
      case round =>
        clear HS3 hm2
        obtain ⟨j, hj, rfl, fv, iv, mv, sv, zv, bs, hW⟩ := hrel
        have HW := Lib.hid hW
        clear hW
        by_cases hlt : j < xs.length
        · have hjd : j < d.states.length := by rw [← HH.out.hx]; exact hlt
          have hjz : j < d.frozen.length := by rw [HF.out.e4]; exact hjd
          obtain ⟨b0, k0, hv, hcell⟩ := owns_at HH.out.made.o3 hlt
          rw [HV3.out] at hv
          have hA1 := (Value.slice.inj hv).1
          subst hA1
          obtain ⟨q, s, hq, hX, hp⟩ := HH.out.scx hjd
          rw [hq] at hcell
          have hcell1 : _ = some (Value.pointer (some ⟨q, 0, none⟩)) := pw_cell_below HW.out.below hcell
          have HX := Lib.hid hX
          have HP := Lib.hid hp
          have hS := HF.out.hS _ (getD_mem hjd 0)
          have HTS := Lib.hid (show d.states.take j ++ [s.state] = d.states.take (j + 1) by rw [hp.1, ← take_one d.states j hjd]; simp [List.getD_eq_getElem?_getD, List.getElem?_eq_getElem hjd])
          have HTZ := Lib.hid (show d.frozen.take j ++ [s.frozen] = d.frozen.take (j + 1) by rw [hp.2, ← take_one d.frozen j hjz]; simp [List.getD_eq_getElem?_getD, List.getElem?_eq_getElem hjz])
          have hs0 : 0 ≤ s.state := by rw [hp.1]; exact hS.1
          have hs1 : s.state ≤ 1000 := by rw [hp.1]; omega
          have hls : (d.states.take j).length = j := by simp; omega
          have hlz : (d.frozen.take j).length = j := by simp; omega
          have HLS := Lib.hid hls
          have HLZ := Lib.hid hlz
          have HWq := Lib.hid HW.out.drew
          have HST := Lib.hid (calls_swap (staten_int R X _ (HH.out.below HWq.out.below).stage.rep q _ hX hs0 hs1))
          have hos := HWq.out.out.s
          simp only [hls] at hos
          have HOS := Lib.hid hos
          have hk1 : wr.cell? ⟨w.heap.size + 1, 3, none⟩ = some sv := HW.out.box.cell 3
          have hk2 : (wr.alloc (Obj.cells #[.int .i64 s.state] 3)).cell? ⟨w.heap.size + 1, 3, none⟩ = some sv := cell_alloc_drew _ hk1
          clear hv hcell hq hX hp hS hs0 hs1 hls hlz hos
          have HTS' := HTS
          have HFZ := Lib.hid (show s.frozen = s.frozen from rfl)
          go_wp2
          apply cut_post (N := fun A k w' => WAt w ⟨d.fields, d.infos, d.marks, d.states.take (j + 1), d.frozen.take j⟩ fv iv mv (.slice A (j + 1) k) zv bs w')
          case h1 =>
            --[
            go_region_law (first
              | (go_simp; go_at_call 99; refine HST.out.mono ?_; rintro e w' ⟨rfl, rfl⟩)
              | (refine step_append_cells (W := wr.drew) w.heap.size (by rfl) _ _ 23 3 (.int .i64 0) 1 8 rfl Try.underlying23 pinfo_int rfl (by decide) (by decide) sv j _ [.int .i64 s.state] rfl rfl rfl (by simp [Value.oneCell']) HOS.out HWq.out.below HWq.out.below.size (by have := HF.out.l3; omega) ?_
                 intro a2 w3 hown2 hb2 hg2 hat2
                 have HW3 := Lib.hid (HWq.out.pushS hg2 (by simp only [HLS.out]; exact hown2) hat2)
                 obtain ⟨hc2, hf2, A2', c2', hv2⟩ := HWq.out.after HOS.out (by decide) hg2 (j := 3) rfl hown2
                 clear hown2 hb2 hg2 hat2
                 subst hv2
                 simp only [HTS.out] at HW3))
            all_goals exact ⟨_, _, rfl, HW3.out⟩
            --]
          case h2 =>
            intro A2' c2' wq2 hW2
            have HW2 := Lib.hid hW2
            clear hW2 hk1 hk2 HOS HWq HW HST hcell1
            have HWr := Lib.hid HW2.out.drew
            have HAZ := Lib.hid (calls_swap (allfrozenn (HH.out.below HWr.out.below).stage.rep q _ HX.out))
            have hoz := HWr.out.out.z
            simp only [HLZ.out] at hoz
            have HOZ := Lib.hid hoz
            have hk1 : wq2.cell? ⟨w.heap.size + 1, 4, none⟩ = some zv := HW2.out.box.cell 4
            have hk2 : (wq2.alloc (Obj.cells #[.bool s.frozen] 4)).cell? ⟨w.heap.size + 1, 4, none⟩ = some zv := cell_alloc_drew _ hk1
            clear hoz
            go_wp2
            apply cut_post (N := fun A k w' => WAt w ⟨d.fields, d.infos, d.marks, d.states.take (j + 1), d.frozen.take (j + 1)⟩ fv iv mv (.slice A2' (j + 1) c2') (.slice A (j + 1) k) bs w')
            case h1 =>
              --[
              go_region_law (first
                | (go_simp; go_at_call 72; refine HAZ.out.mono ?_; rintro e w' ⟨rfl, rfl⟩)
                | (refine step_append_cells (W := wq2.drew) w.heap.size (by rfl) _ _ 24 4 (.bool false) 1 1 rfl Try.underlying24 pinfo_bool rfl (by decide) (by decide) zv j _ [.bool s.frozen] rfl rfl rfl (by simp [Value.oneCell']) HOZ.out HWr.out.below HWr.out.below.size (by have := HF.out.l3; omega) ?_
                   intro a2 w3 hown2 hb2 hg2 hat2
                   have HW3 := Lib.hid (HWr.out.pushZ hg2 (by simp only [HLZ.out]; exact hown2) hat2)
                   obtain ⟨hc2, hf2, A3', c3', hv2⟩ := HWr.out.after HOZ.out (by decide) hg2 (j := 4) rfl hown2
                   clear hown2 hb2 hg2 hat2
                   subst hv2
                   simp only [HTZ.out] at HW3))
              all_goals exact ⟨_, _, rfl, HW3.out⟩
              --]
            case h2 =>
              intro A3' c3' wq3 hW3
              have HW4 := Lib.hid hW3
              clear hW3 hk1 hk2 HAZ HOZ HW2 HWr
              go_wp2
              go_roundw
              case rel => exact ⟨j + 1, by omega, by go_num, _, _, _, _, _, _, HW4.out⟩
              case measure => simp [intOf]; omega
        · have hje : j = xs.length := by omega
          subst hje
          have h1 := HW.out
          rw [List.take_of_length_le (by rw [HH.out.hx]; exact Nat.le_refl _), List.take_of_length_le (by rw [HF.out.e4, HH.out.hx]; exact Nat.le_refl _)] at h1
          have HW1 := Lib.hid h1
          have hb0 := h1.box.cell 0
          have hb1 := h1.box.cell 1
          have hb2 := h1.box.cell 2
          have hb3 := h1.box.cell 3
          have hb4 := h1.box.cell 4
          have hr0 := h1.res.cell 0
          have hr1 := h1.res.cell 1
          have hr2 := h1.res.cell 2
          have hr3 := h1.res.cell 3
          have hr4 := h1.res.cell 4
          have hf0 := h1.res.free ⟨w.heap.size, 0, none⟩ rfl
          have hf1 := h1.res.free ⟨w.heap.size, 1, none⟩ rfl
          have hf2 := h1.res.free ⟨w.heap.size, 2, none⟩ rfl
          have hf3 := h1.res.free ⟨w.heap.size, 3, none⟩ rfl
          have hf4 := h1.res.free ⟨w.heap.size, 4, none⟩ rfl
          simp only [List.getElem?_cons_zero, List.getElem?_cons_succ] at hb0 hb1 hb2 hb3 hb4 hr0 hr1 hr2 hr3 hr4
          have HEND := Lib.hid (show ∀ w', Fr wr w' (fun k => k = w.heap.size) → Below w.heap.size w w' ∧ OutW w.heap.size d fv iv mv sv zv bs w' from fun w' hf =>
            ⟨h1.below.trans (hf.below h1.below.size (fun k hk => hk ▸ Nat.le_refl _)), h1.out.other hf (fun k hk => ⟨TWD, _, hk ▸ h1.res, by decide, by decide, by decide⟩)⟩)
          obtain ⟨Af, cf, ef, _, _⟩ := owns_slice h1.out.f
          obtain ⟨Ai, ci, ei, _, _⟩ := owns_slice h1.out.i
          obtain ⟨Am, cm, em, _, _⟩ := owns_slice h1.out.m
          obtain ⟨As, cs, es, _, _⟩ := owns_slice h1.out.s
          obtain ⟨Az, cz, ez, _, _⟩ := owns_slice h1.out.z
          simp only at ef ei em es ez
          subst ef ei em es ez
          have HRES := Lib.hid h1.res
          clear HW h1 hlt hj HW1
          have hblk : ∀ wz, wz = ((((wr.setCell ⟨w.heap.size, 0, none⟩ (.slice Af d.fields.length cf)).setCell ⟨w.heap.size, 1, none⟩ (.slice Ai d.infos.length ci)).setCell ⟨w.heap.size, 2, none⟩ (.slice Am d.marks.length cm)).setCell ⟨w.heap.size, 3, none⟩ (.slice As d.states.length cs)).setCell ⟨w.heap.size, 4, none⟩ (.slice Az d.frozen.length cz) →
              wz.heap[w.heap.size]? = some (.cells #[.slice Af d.fields.length cf, .slice Ai d.infos.length ci, .slice Am d.marks.length cm, .slice As d.states.length cs, .slice Az d.frozen.length cz] TWD (0, 0)) := fun wz e => by
            subst e
            exact ((((HRES.out.set 0 _).set 1 _).set 2 _).set 3 _).set 4 _
          have HBLK := Lib.hid hblk
          clear hblk
          go_wp2
          (try simp only [Exit.inBlock, Exit.then])
          refine bodyPost_ret (results_cell_row rfl _ _ w.heap.size TWD _ (0, 0) _ rfl (HBLK.out _ rfl) Try.underlying36 rfl wsize) rfl ?_
          refine HQ'.out _ _ ⟨_, _, _, _, _, bs, rfl, HEND.out _ ?_⟩
          repeat refine Fr.setCell ?_ _ _ (fun _ => rfl)
          exact Fr.refl _ _
end Go.Proofs.Ytphhdmopfmelbaa
