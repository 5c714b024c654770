/-
  HelpCalls: Help itself on records of the statement's own: it commits, and what it leaves is what the document says. Condition: what it reads is of bulk at most 1048576.
-/
import Derived.Test.YtphhdmopfmelbaaGreatM3
import Derived.Test.YtphhdmopfmelbaaGreatM10
import Derived.Test.YtphhdmopfmelbaaGreatM11
import Derived.StillTailTactics
import Derived.Deep.CondSized

/- larchlaw13.HelpCalls: the walk. Printed by p_calls13.py. -/
namespace Go.Proofs.YtphhdmopfmelbaaGreat
open Go.RowKit Go.Proofs.YtphhdmopfmelbaaGreatW.PrintWords Go.Proofs.YtphhdmopfmelbaaGreatW.PrintLast
set_option linter.unusedVariables false
set_option linter.unusedSimpArgs false

set_option maxHeartbeats 40000000 in
set_option maxRecDepth 100000 in
theorem law13_HelpCalls (w : World) (v : WV) (d : WD) (A : Option Addr) (c : Nat) (l : List PX) (As Ap : Option Addr) (ns cs np cp : Nat) (scx : Int) (hv : v.Reads w d) (hp : PlansAt w A l) (hl : d.fields.length < 1000000000000000) (hl3 : d.states.length < 1000000000000000) (hr : ∀ r ∈ d.fields, r.length < 1000000000000000) (hl4 : l.length < 1000000000000000) (hl5 : ∀ x ∈ l, x.p.V.length < 1000000000000000) :
    Calls Tryz.prog 3 #[.agg #[.slice v.A0 d.fields.length v.c0, .slice v.A1 d.infos.length v.c1, .slice v.A2 d.marks.length v.c2, .slice v.A3 d.states.length v.c3, .slice v.A4 d.frozen.length v.c4, .slice A l.length c, .slice As ns cs, .slice Ap np cp], .int .i64 scx] w fun e w' => e = .returned (.bool true) ∧ Below w.heap.size w w' := by
  refine calls_hide fun Q HQ => ?_
  have HQ' := Lib.hid HQ
  have HV := Lib.hid hv
  have HP := Lib.hid hp
  have HR := Lib.hid hr
  have HL5 := Lib.hid hl5
  have hbk := Blk.new w TCA13 [.slice v.A0 d.fields.length v.c0, .slice v.A1 d.infos.length v.c1, .slice v.A2 d.marks.length v.c2, .slice v.A3 d.states.length v.c3, .slice v.A4 d.frozen.length v.c4, .slice A l.length c, .slice As ns cs, .slice Ap np cp]
  have hal := (Below.refl w.heap.size w).alloc (Nat.le_refl _) (.cells #[.slice v.A0 d.fields.length v.c0, .slice v.A1 d.infos.length v.c1, .slice v.A2 d.marks.length v.c2, .slice v.A3 d.states.length v.c3, .slice v.A4 d.frozen.length v.c4, .slice A l.length c, .slice As ns cs, .slice Ap np cp] TCA13)
  have HK := Lib.hid hbk
  have HB := Lib.hid hal
  clear HQ hv hp hr hl5 hbk hal
  go_enter Tryz.func3, Tryz.ntmps3
  go_wp2_with fail
  generalize w.alloc (.cells #[.slice v.A0 d.fields.length v.c0, .slice v.A1 d.infos.length v.c1, .slice v.A2 d.marks.length v.c2, .slice v.A3 d.states.length v.c3, .slice v.A4 d.frozen.length v.c4, .slice A l.length c, .slice As ns cs, .slice Ap np cp] TCA13) = w0 at *
  refine (law13_awake w0).mono ?_
  rintro e w1 ⟨rfl, hb1⟩
  have HB1 := Lib.hid (HB.out.trans (hb1.mono HB.out.size))
  have HK1 := Lib.hid (HK.out.below hb1 HK.out.lt)
  clear hb1 HB HK
  have HF := Lib.hid (law13_fresh w1 v d A c l As Ap ns cs np cp (HV.out.below HB1.out) (HP.out.below HB1.out) hl hl3 HR.out hl4 HL5.out)
  have q0 := HK1.out.cell 0
  have q1 := HK1.out.cell 1
  have q2 := HK1.out.cell 2
  have q3 := HK1.out.cell 3
  have q4 := HK1.out.cell 4
  have q5 := HK1.out.cell 5
  have q6 := HK1.out.cell 6
  have q7 := HK1.out.cell 7
  simp only [List.getElem?_cons_zero, List.getElem?_cons_succ] at q0 q1 q2 q3 q4 q5 q6 q7
  go_wp2_with fail
  refine HF.out.mono ?_
  rintro e w2 ⟨b, rfl, hfr, hb2⟩
  have HB2 := Lib.hid (HB1.out.trans (hb2.mono HB1.out.size))
  have HK2 := Lib.hid (HK1.out.below hb2 HK1.out.lt)
  have HFR := Lib.hid hfr
  clear hb2 hfr HB1 HK1 HF q0 q1 q2 q3 q4 q5 q6 q7
  have q5 := HK2.out.cell 5
  have q0 := HK2.out.cell 0
  simp only [List.getElem?_cons_zero, List.getElem?_cons_succ] at q0 q5
  cases b with
  | false =>
    go_wp2
    exact HQ'.out _ _ ⟨rfl, HB2.out⟩
  | true =>
    by_cases hin0 : scx < 0
    · go_wp2
      exact HQ'.out _ _ ⟨rfl, HB2.out⟩
    by_cases hin1 : scx < l.length
    case neg =>
      go_wp2
      exact HQ'.out _ _ ⟨rfl, HB2.out⟩
    obtain ⟨hck, hfd⟩ := HFR.out rfl
    obtain ⟨hnb, hform, hps, hfits⟩ := chkH_zero hck
    rw [List.length_map] at hps
    have HFM := Lib.hid hform
    have HLL := Lib.hid hps
    have HFT := Lib.hid (show ∀ x ∈ l, x.p.Fits d from fun x hx => hfits _ (List.mem_map_of_mem hx))
    have HCK := Lib.hid hck
    have HFD := Lib.hid hfd
    have l0 : d.fields.length ≤ 64 := Nat.le_of_not_lt fun h => hnb (.inl h)
    have HL1 := Lib.hid (show ∀ r ∈ d.fields, r.length ≤ 64 from fun r hr => Nat.le_of_not_lt fun h => hnb (.inr (.inr (.inl ⟨r, hr, h⟩))))
    have HL2 := Lib.hid (show ∀ x ∈ l, x.p.V.length ≤ 64 from fun x hx => Nat.le_of_not_lt fun h => hnb (.inr (.inr (.inr ⟨x.p, List.mem_map_of_mem hx, h⟩))))
    have HFb := Lib.hid hform.hF
    clear hck hfd hnb hform hps hfits HFR
    have HL0 := Lib.hid (LI1.start d HK2.out HB2.out)
    have hmk := fun n (hn : n ≤ 64) w => run_make_nils (P := Tryz.prog) (t := TSS) Tryz.underlying32 pinfo_srec rfl n (by omega) (by omega) w
    have HMK := Lib.hid hmk
    clear hmk
    have q9 := (HK2.out.alloc (.cells #[.slice none 0 0] TSS)).cell 0
    simp only [List.getElem?_cons_zero] at q9
    go_wp2
    clear q0 q5 q9
    generalize w2.alloc (.cells #[.slice none 0 0] TSS) = w3 at *
    generalize w2.heap.size = bs at *
    clear HB2 HK2
    go_loopw [47] (fun k wr => ∃ j : Nat, j ≤ d.fields.length ∧ k = .int .i64 j ∧ LI1 w w.heap.size bs [.slice v.A0 d.fields.length v.c0, .slice v.A1 d.infos.length v.c1, .slice v.A2 d.marks.length v.c2, .slice v.A3 d.states.length v.c3, .slice v.A4 d.frozen.length v.c4, .slice A l.length c, .slice As ns cs, .slice Ap np cp] d j wr) (fun k _ => d.fields.length - (intOf k).toNat)
    case atStart => exact ⟨0, Nat.zero_le _, rfl, HL0.out⟩
    case round =>
      clear HL0
      obtain ⟨j, hj, rfl, R, X, rs, fs, u, hrl, hM⟩ := hrel
      have HM := Lib.hid hM
      clear hM
      subst hrl
      by_cases hlt : rs.length < d.fields.length
      · obtain ⟨ad, hA, A', c', hc0, _, _⟩ := row_at HV.out.h0 hlt
        have HM0 := Lib.hid HM.out.drew
        have hc : wr.drew.cell? (ad.add rs.length) = some (.slice A' d.fields[rs.length].length c') := pw_cell_below HM0.out.below hc0
        have hn64 := HL1.out d.fields[rs.length] (List.getElem_mem hlt)
        have HD := Lib.hid (show d.fields.getD rs.length [] = d.fields[rs.length] by simp [List.getD_eq_getElem?_getD, List.getElem?_eq_getElem hlt])
        have hbx := HM0.out.box.cell 0
        have hcl := HM0.out.cell.cell 0
        simp only [List.getElem?_cons_zero] at hbx hcl
        generalize d.fields[rs.length] = row at *
        have hcl2 : (wr.alloc (Obj.cells (nils row.length) 33)).cell? ⟨bs, 0, none⟩ = some u := by have := (HM.out.cell.alloc (Obj.cells (nils row.length) 33)).cell 0; exact this
        clear HM
        have hmk := HMK.out row.length hn64 wr.drew
        have hps : ((List.replicate row.length (none : Option Nat)).map pv) = List.replicate row.length (.pointer none) := by simp [hd]
        have HN := Lib.hid (new_string { data := #[114] } (some ⟨wr.drew.heap.size, 0, none⟩) row.length (List.replicate row.length none) R X (wr.drew.alloc (.cells (nils row.length) TSR)) (HM0.out.stage.rep.below ((Below.refl wr.drew.heap.size wr.drew).alloc (Nat.le_refl _) _))
          (by rw [hps]; have := Row1.of_blk (rest := []) (by simpa using nils_blk wr.drew TSR row.length); simpa using this) (fun p hp => by rw [List.eq_of_mem_replicate hp]; exact Ok.none R) (by simp; omega))
        have hlr : (List.replicate row.length (none : Option Nat)).length = row.length := by simp
        rw [hlr] at HN
        clear hc0 hps hlr
        obtain ⟨A0, c0, A1, c1, A2, c2, A3, c3, A4, c4⟩ := v
        simp only at hA
        subst hA
        --[
        go_wp2_with fail
        go_region_law (first
          | (go_simp; go_at_call 6; refine HN.out.mono ?_; rintro e w5 ⟨b, fb, xb, rfl, hb, hfb, hxb, hbel, hrep⟩
             simp only [World.size_alloc] at hb hfb hxb
             have hbel1 : Below wr.drew.heap.size wr.drew w5 := ((Below.refl wr.drew.heap.size wr.drew).alloc (Nat.le_refl _) _).trans (hbel.mono (by simp))
             have hfl : fs.length = rs.length := HM0.out.stage.len
             have HS := ((HM0.out.stage.cong (F' := fun i => List.replicate (d.fields.getD i []).length none) (I' := fun i => (fs ++ [xb])[i]?) (M' := fun _ => false) (P' := fun _ _ => True) (fun _ _ => rfl) (fun i hi => by rw [List.getElem?_append_left (by omega)]) (fun _ _ => rfl) (fun _ _ _ _ => trivial)).addRec hbel1 (by omega) (by omega) (by omega) HM0.out.below.size hrep (by rw [HD.out]) (by simp [hfl]) rfl)
             have HM1 := Lib.hid (HM0.out.grow hbel1 HS)
             have hcl5 : w5.cell? ⟨bs, 0, none⟩ = some u := HM1.out.cell.cell 0
             have hcl6 : (w5.alloc (Obj.cells #[pv (some b)] 33)).cell? ⟨bs, 0, none⟩ = some u := (HM1.out.cell.alloc (Obj.cells #[pv (some b)] 33)).cell 0
             clear hb hfb hxb hbel hrep hbel1 HS hfl)
          | (refine step_append_cells (W := w5) w.heap.size (by rfl) _ _ TSS TSR (.pointer none) 1 8 rfl Tryz.underlying32 pinfo_srec rfl (by decide) (by decide) u rs.length _ [pv (some b)] rfl rfl rfl (by simp [Value.oneCell']) HM1.out.own HM1.out.below HM1.out.below.size (by omega) ?_
             intro a1 w6 hown1 hb1 hg1 hat1
             have HM2 := Lib.hid (HM1.out.push hg1 hown1)
             obtain ⟨hc1, hf1, A1', c1', hv1⟩ := after_append HM1.out.cell HM1.out.own (by decide) hg1 (j := 0) rfl _ hown1
             clear hown1 hb1 hg1 hat1
             subst hv1))
        all_goals
          go_wp2
          go_roundw
          case rel => exact ⟨rs.length + 1, by omega, by go_num, _, _, rs ++ [b], fs ++ [xb], _, by simp, HM2.out⟩
          case measure => simp [intOf]; omega
        --]
      · have hj0 : rs.length = d.fields.length := by omega
        have HRL := Lib.hid hj0
        have hb0 : wr.cell? ⟨w.heap.size, 0, none⟩ = some (.slice v.A0 d.fields.length v.c0) := HM.out.box.cell 0
        have hs3 := Lib.hid (show LI2 w w.heap.size bs [.slice v.A0 d.fields.length v.c0, .slice v.A1 d.infos.length v.c1, .slice v.A2 d.marks.length v.c2, .slice v.A3 d.states.length v.c3, .slice v.A4 d.frozen.length v.c4, .slice A l.length c, .slice As ns cs, .slice Ap np cp] d rs fs u 0 0 wr from ⟨R, X, HM.out.cong (F' := FF rs d 0 0) (fun i => FF_zero rs d i) (fun _ => rfl) (fun _ => rfl)⟩)
        clear HM hj hj0 HMK
        go_wp2
        clear hb0
        go_loopw [68] (fun k wr => ∃ j : Nat, j ≤ d.fields.length ∧ k = .int .i64 j ∧ LI2 w w.heap.size bs [.slice v.A0 d.fields.length v.c0, .slice v.A1 d.infos.length v.c1, .slice v.A2 d.marks.length v.c2, .slice v.A3 d.states.length v.c3, .slice v.A4 d.frozen.length v.c4, .slice A l.length c, .slice As ns cs, .slice Ap np cp] d rs fs u j 0 wr) (fun k _ => d.fields.length - (intOf k).toNat)
        case atStart => exact ⟨0, Nat.zero_le _, rfl, hs3.out⟩
        case round =>
          clear hs3
          obtain ⟨j, hj, rfl, R, X, hM⟩ := hrel
          have HM := Lib.hid hM
          clear hM
          by_cases hlt3 : j < d.fields.length
          · obtain ⟨ad, hA, A', c', hc0, _, hrow⟩ := row_at HV.out.h0 hlt3
            have hc : _ = some (Value.slice A' d.fields[j].length c') := pw_cell_below HM.out.below hc0
            have hn64 := HL1.out d.fields[j] (List.getElem_mem hlt3)
            have HFr := Lib.hid (HFb.out d.fields[j] (List.getElem_mem hlt3))
            have HD := Lib.hid (show d.fields.getD j [] = d.fields[j] by simp [List.getD_eq_getElem?_getD, List.getElem?_eq_getElem hlt3])
            obtain ⟨b, hbj⟩ : ∃ b, rs[j]? = some b := ⟨rs[j]'(by have := HRL.out; omega), List.getElem?_eq_getElem (by have := HRL.out; omega)⟩
            have HBJ := Lib.hid hbj
            generalize d.fields[j] = row at *
            have HRow := Lib.hid hrow
            have hs4 := Lib.hid (show LI2 w w.heap.size bs [.slice v.A0 d.fields.length v.c0, .slice v.A1 d.infos.length v.c1, .slice v.A2 d.marks.length v.c2, .slice v.A3 d.states.length v.c3, .slice v.A4 d.frozen.length v.c4, .slice A l.length c, .slice As ns cs, .slice Ap np cp] d rs fs u j 0 wr from ⟨R, X, HM.out⟩)
            obtain ⟨A0, c0, A1, c1, A2, c2, A3, c3, A4, c4⟩ := v
            simp only at hA
            subst hA
            clear hrow hc0 hbj HM
            go_wp2
            clear hc
            go_loopw [75] (fun k wr => ∃ q : Nat, q ≤ row.length ∧ k = .int .i64 q ∧ LI2 w w.heap.size bs [.slice (some ad) d.fields.length c0, .slice A1 d.infos.length c1, .slice A2 d.marks.length c2, .slice A3 d.states.length c3, .slice A4 d.frozen.length c4, .slice A l.length c, .slice As ns cs, .slice Ap np cp] d rs fs u j q wr) (fun k _ => row.length - (intOf k).toNat)
            case atStart => exact ⟨0, Nat.zero_le _, rfl, hs4.out⟩
            case round =>
              --[
              clear hs4
              obtain ⟨q, hq, rfl, R, X, hM⟩ := hrel
              have HM := Lib.hid hM
              clear hM
              by_cases hlt4 : q < row.length
              · obtain ⟨ad2, hA2, hc2⟩ := int_at HRow.out hlt4
                try simp only at hA2
                subst hA2
                have hc3 := pw_cell_below HM.out.below hc2
                obtain ⟨b0, k0, hm0, hcell⟩ := HM.out.at_ (j := j) (by have := HRL.out; omega)
                rw [HBJ.out] at hcell
                have hcell1 : _ = some (Value.pointer (some ⟨b, 0, none⟩)) := hcell
                have hjr : j < rs.length := by have := HRL.out; omega
                obtain ⟨fb, hfb, hfbl⟩ := HM.out.stage.r j b HBJ.out
                have hfn := HFr.out row[q] (List.getElem_mem hlt4)
                have HMd := Lib.hid HM.out.drew
                have HRC := Lib.hid (calls_swap (law13_at HMd.out row[q] hfn.1 (by have := hfn.2; have := HRL.out; omega)))
                have hql : q < (d.fields.getD j []).length := by rw [HD.out]; exact hlt4
                have hfl : q < (FF rs d j q j).length := by rw [FF_len _ _ _ _ (by omega)]; exact hql
                have HSW := Lib.hid (swing_nil_string R X wr.drew HMd.out.stage.rep b _ hfb q hfl (FF_none rs d j q hql) (rp rs row[q]) (HMd.out.stage.okR row[q]))
                have HFB := Lib.hid hfb
                have HST := Lib.hid (FF_step rs d j q · hql)
                have HRQ := Lib.hid (show rp rs ((d.fields.getD j [])[q]) = rp rs row[q] by simp only [HD.out])
                generalize row[q] = n at *
                clear hc2 hfb hfl hcell HM
                go_wp2_with fail
                refine wp_region_still_tail 8 (by kernel_rfl) (by kernel_rfl) ?_
                simp only [List.take_succ_cons, List.take_zero, List.drop_succ_cons, List.drop_zero]
                iterate 7 still_step
                still_call (HRC.out)
                refine wpStill_nil ?_
                change wpList _ _ _ _ _ wr.drew
                clear hc3 hcell1 hm0 HRC
                generalize wr.drew = wz at *
                go_wp2_with fail
                refine HSW.out.mono ?_
                rintro e w1 ⟨rfl, hf1, hr1⟩
                have HM2 := Lib.hid ((LInv.turn HMd.out HBJ.out HFB.out (.inr rfl) hf1 hr1).cong (F' := FF rs d j (q + 1)) (I' := fun i => fs[i]?) (M' := fun _ => false) (fun i => by rw [← HRQ.out]; exact HST.out i) (fun i => by split <;> simp_all) (fun i => by split <;> simp_all))
                clear hf1 hr1 HMd HFB HST HRQ HSW
                go_wp2
                go_roundw
                case rel => exact ⟨q + 1, by omega, by go_num, _, _, HM2.out⟩
                case measure => simp [intOf]; omega
              · have hq0 : q = row.length := by omega
                subst hq0
                have HM2 := Lib.hid (show LI2 w w.heap.size bs [.slice (some ad) d.fields.length c0, .slice A1 d.infos.length c1, .slice A2 d.marks.length c2, .slice A3 d.states.length c3, .slice A4 d.frozen.length c4, .slice A l.length c, .slice As ns cs, .slice Ap np cp] d rs fs u (j + 1) 0 wr from ⟨R, X, HM.out.cong (F' := FF rs d (j + 1) 0) (fun i => by rw [← FF_next, HD.out]) (fun _ => rfl) (fun _ => rfl)⟩)
                clear hlt4 hq HM
                go_wp2
                go_roundw
                case rel => exact ⟨j + 1, by omega, by go_num, HM2.out⟩
                case measure => simp [intOf]; omega
              --]
          · have hj3 : j = d.fields.length := by omega
            have hjn : scx.toNat < l.length := by omega
            obtain ⟨pb, po, hA, p0, p1, p2, p3, p4, p5, p6⟩ := HP.out.at_ hjn
            have q0 := pw_cell_below HM.out.below p0
            have q1 := pw_cell_below HM.out.below p1
            have q2 := pw_cell_below HM.out.below p2
            have q3 := pw_cell_below HM.out.below p3
            have q4 := pw_cell_below HM.out.below p4
            have q5 := pw_cell_below HM.out.below p5
            have q6 := pw_cell_below HM.out.below p6
            have hb5 : wr.cell? ⟨w.heap.size, 5, none⟩ = some (.slice A l.length c) := HM.out.box.cell 5
            have HXF := Lib.hid (HFT.out _ (List.getElem_mem hjn))
            have HXL := Lib.hid (HL2.out _ (List.getElem_mem hjn))
            have HXR := Lib.hid (HP.out.reads _ (List.getElem_mem hjn))
            have HXM := Lib.hid (List.mem_map_of_mem (f := PX.p) (List.getElem_mem hjn))
            have HGD := Lib.hid (show (l.map PX.p).getD scx.toNat default = (l[scx.toNat]).p by simp [List.getD_eq_getElem?_getD, List.getElem?_eq_getElem hjn])
            clear p0 p1 p2 p3 p4 p5 p6
            generalize l[scx.toNat] = x at *
            obtain ⟨p, B0, k0, B1, k1, B2, k2⟩ := x
            simp only at q0 q1 q2 q3 q4 q5 q6
            subst hA
            have HM4 := Lib.hid (HM.out.on (w1 := wr.alloc (.cells #[.slice B0 p.V.length k0, .slice B1 p.infos.length k1, .slice B2 p.fin.length k2, .int .i64 p.at_, .int .i64 p.fld, .int .i64 p.old, .int .i64 p.new] 38)) ((Below.refl _ _).alloc (Nat.le_refl _) _))
            have HX4 := Lib.hid (Blk.new wr 38 [.slice B0 p.V.length k0, .slice B1 p.infos.length k1, .slice B2 p.fin.length k2, .int .i64 p.at_, .int .i64 p.fld, .int .i64 p.old, .int .i64 p.new])
            have x0 : (wr.alloc (.cells #[.slice B0 p.V.length k0, .slice B1 p.infos.length k1, .slice B2 p.fin.length k2, .int .i64 p.at_, .int .i64 p.fld, .int .i64 p.old, .int .i64 p.new] 38)).cell? ⟨wr.heap.size, 0, none⟩ = some (.slice B0 p.V.length k0) := HX4.out.cell 0
            clear hj hlt3
            go_wp2
            clear x0 q0 q1 q2 q3 q4 q5 q6 hb5 HM
            generalize wr.alloc (.cells #[.slice B0 p.V.length k0, .slice B1 p.infos.length k1, .slice B2 p.fin.length k2, .int .i64 p.at_, .int .i64 p.fld, .int .i64 p.old, .int .i64 p.new] 38) = w4 at *
            generalize wr.heap.size = bx at *
            have HXR4 := Lib.hid (HXR.out.below HM4.out.below)
            have HV0 := Lib.hid (row1_of_C HXR4.out.h0)
            have HFN := Lib.hid (row1_of_C HXR4.out.h2)
            have hvl : p.V.length ≤ 64 := HXL.out
            go_loopw [13, 14, 99] (fun v i k wr => ∃ q : Nat, q ≤ p.V.length ∧ k = .int .i64 q ∧ PlanInvS w4 rs fs p.V q v i wr) (fun _ _ k _ => p.V.length - (intOf k).toNat)
            case atStart => exact ⟨0, Nat.zero_le _, rfl, Below.refl _ _, World.ownsRow_nil _ _ _ _, World.ownsRow_nil _ _ _ _⟩
            case round =>
              obtain ⟨q, hq, rfl, hI⟩ := hrel
              have HI := Lib.hid hI
              clear hI
              by_cases hlt : q < p.V.length
              · --[
                have hx0 : (p.V.map (Value.int .i64))[q]? = some (.int .i64 p.V[q]) := by simp [List.getElem?_eq_getElem hlt]
                obtain ⟨ad, hA, hc0⟩ := HV0.out.at_ hx0
                have hc : wr.cell? (ad.add q) = some (.int .i64 p.V[q]) := pw_cell_below HI.out.1 hc0
                have hb := HXF.out.hV p.V[q] (List.getElem_mem hlt)
                have HTr := Lib.hid (take_succ_map (fun n => pv rs[n.toNat]?) p.V q hlt)
                have HTf := Lib.hid (take_succ_map (fun n => pv fs[n.toNat]?) p.V q hlt)
                generalize p.V[q] = n at *
                clear hx0 hc0
                simp only at hA hc
                subst hA
                have hn0 : 0 ≤ n := hb.1
                have hn1 : n < rs.length := by rw [HRL.out]; exact hb.2
                have HM5 := Lib.hid (HM4.out.on HI.out.1)
                obtain ⟨a5, c5, m0, g0⟩ := HM5.out.at_ (j := n.toNat) (by omega)
                have hg1 : rs[n.toNat]? = some (rs.getD n.toNat 0) := by simp [List.getD_eq_getElem?_getD, List.getElem?_eq_getElem (show n.toNat < rs.length by omega)]
                obtain ⟨fb, hfb, _⟩ := HM5.out.stage.r _ _ hg1
                rw [hg1] at g0
                have HG1 := Lib.hid hg1
                have HFB := Lib.hid hfb
                generalize rs.getD n.toNat 0 = b1 at *
                have g1 : wr.cell? ⟨a5, n.toNat, none⟩ = some (.pointer (some ⟨b1, 0, none⟩)) := g0
                clear hb g0 hg1 hfb
                go_wp2_with (at_builtin; refine print_append_cells w4.heap.size rfl _ _ TSS TSR (.pointer none) 1 8 rfl Tryz.underlying32 pinfo_srec rfl (by decide) (by decide) u13 q _ [.pointer (some ⟨b1, 0, none⟩)] rfl rfl rfl (by simp [Value.oneCell']) HI.out.2.1 HI.out.1 HI.out.1.size (by omega) ?_)
                intro a1 w6 hown1 hb1 hg1 hat1
                have HO2 := Lib.hid (owns_fr HI.out.2.2 (Fr.of_grown hg1) (fun k hk e => by
                  obtain ⟨ys, hy⟩ := owns_typed HI.out.2.2 k hk
                  obtain ⟨zs, hz⟩ := owns_typed HI.out.2.1 k e.symm
                  exact absurd (hy.inj hz).1 (by decide)))
                have HO1 := Lib.hid hown1
                have HB1 := Lib.hid hb1
                have HM6 := Lib.hid (HM4.out.on hb1)
                obtain ⟨a6, c6, m1, g2⟩ := HM6.out.at_ (j := n.toNat) (by omega)
                rw [HG1.out] at g2
                have g3 : w6.cell? ⟨a6, n.toNat, none⟩ = some (.pointer (some ⟨b1, 0, none⟩)) := g2
                have HIN := Lib.hid (infon_string R X w6 HM6.out.stage.rep b1 _ HFB.out)
                clear hown1 hb1 hg1 hat1 m0 g1 g2 hc HM5 HM6
                generalize hq2 : fs[n.toNat]? = p2 at *
                clear hq2
                go_wp2_with fail
                refine HIN.out.mono ?_
                rintro e w7 ⟨rfl, rfl⟩
                clear m1 g3 HIN
                go_wp2_with (at_builtin; refine print_append_cells w4.heap.size rfl _ _ 39 TSX (.pointer none) 1 8 rfl Tryz.underlying39 pinfo_sscx rfl (by decide) (by decide) u14 q _ [pv p2] rfl rfl rfl (by simp [Value.oneCell']) HO2.out HB1.out HB1.out.size (by omega) ?_)
                intro a2 w8 hown2 hb2 hg2 hat2
                have HN : PlanInvS w4 rs fs p.V (q + 1) a1 a2 w8 := ⟨hb2, by
                  rw [HTr.out, HG1.out]
                  exact owns_fr HO1.out (Fr.of_grown hg2) (fun k hk e => by
                    obtain ⟨ys, hy⟩ := owns_typed HO1.out k hk
                    obtain ⟨zs, hz⟩ := owns_typed HO2.out k e.symm
                    exact absurd (hy.inj hz).1 (by decide)), by rw [HTf.out]; exact hown2⟩
                have HN1 := Lib.hid HN
                clear HN hown2 hb2 hg2 hat2 HO1 HO2 HB1 HTr HTf
                go_wp2
                go_roundw
                case rel => exact ⟨q + 1, by omega, by go_num, HN1.out⟩
                case measure => simp [intOf]; omega
                --]
              · have hqe : q = p.V.length := by omega
                subst hqe
                have HM5 := Lib.hid (HM4.out.on HI.out.1)
                have HXr := Lib.hid (HX4.out.below HI.out.1 HX4.out.lt)
                have t2 : wr.cell? ⟨bx, 2, none⟩ = some (.slice B2 p.fin.length k2) := HXr.out.cell 2
                have t3 : wr.cell? ⟨bx, 3, none⟩ = some (.int .i64 p.at_) := HXr.out.cell 3
                have t4 : wr.cell? ⟨bx, 4, none⟩ = some (.int .i64 p.fld) := HXr.out.cell 4
                have t5 : wr.cell? ⟨bx, 5, none⟩ = some (.int .i64 p.old) := HXr.out.cell 5
                have t6 : wr.cell? ⟨bx, 6, none⟩ = some (.int .i64 p.new) := HXr.out.cell 6
                obtain ⟨A5, c5, e5, q5, l5⟩ := owns_slice HI.out.2.1
                obtain ⟨A6, c6, e6, q6, l6⟩ := owns_slice HI.out.2.2
                have Q5 := Lib.hid q5
                have Q6 := Lib.hid q6
                clear q5 q6
                subst e5 e6
                have HMd := Lib.hid HM5.out.drew
                have HRC := Lib.hid (fun n n0 n1 => calls_swap (law13_at HMd.out n n0 n1))
                have hQ5 : A5 = none → p.V.length = 0 ∧ c5 = 0 := fun e => by
                  subst e
                  rcases HI.out.2.1.2 with ⟨hv, h0⟩ | ⟨_, _, _, hv, _⟩
                  · exact ⟨h0, by simpa using congrArg (fun v => match v with | .slice _ _ c => c | _ => 0) hv⟩
                  · simp at hv
                have hQ6 : A6 = none → p.V.length = 0 ∧ c6 = 0 := fun e => by
                  subst e
                  rcases HI.out.2.2.2 with ⟨hv, h0⟩ | ⟨_, _, _, hv, _⟩
                  · exact ⟨h0, by simpa using congrArg (fun v => match v with | .slice _ _ c => c | _ => 0) hv⟩
                  · simp at hv
                have hFA : B2 = none → p.fin.length = 0 ∧ k2 = 0 := fun e => by
                  obtain ⟨ad, e2, _⟩ := HXR4.out.h2.2.2 (by show 0 < p.fin.length; have h1 := HXF.out.v2; have h2 := HXF.out.v0; omega)
                  simp only at e2; rw [e] at e2; cases e2
                have HNS := Lib.hid (newscx_string A5 p.V.length c5 _ A6 p.V.length c6 _ B2 p.fin.length k2 _ p.at_ p.fld (rp rs p.old) (rp rs p.new) R X wr.drew HMd.out.stage.rep Q5.out Q6.out (HFN.out.below (w' := wr.drew) HI.out.1.drew) hQ5 hQ6 hFA
                  (fun u hu => by obtain ⟨x, _, rfl⟩ := List.mem_map.1 (List.mem_of_mem_take hu); rfl) (fun u hu => by obtain ⟨x, _, rfl⟩ := List.mem_map.1 (List.mem_of_mem_take hu); rfl) (fun u hu => by obtain ⟨x, _, rfl⟩ := List.mem_map.1 hu; rfl) (by omega) (by omega) (by have h1 := HXF.out.v2; omega))
                have o0 : -1 ≤ p.old := HXF.out.o.1
                have o1 : p.old < rs.length := by rw [HRL.out]; exact HXF.out.o.2
                have n0 : -1 ≤ p.new := HXF.out.n.1
                have n1 : p.new < rs.length := by rw [HRL.out]; exact HXF.out.n.2
                clear Q5 Q6 hQ5 hQ6 hFA HMd HI HM4 HX4 HV0 HFN
                go_wp2_with fail
                refine wp_region_still_tail 16 (by kernel_rfl) (by kernel_rfl) ?_
                simp only [List.take_succ_cons, List.take_zero, List.drop_succ_cons, List.drop_zero]
                iterate 11 still_step
                still_call (HRC.out p.old o0 o1)
                iterate 3 still_step
                still_call (HRC.out p.new n0 n1)
                refine wpStill_nil ?_
                change wpList _ _ _ _ _ wr.drew
                go_wp2_with fail
                refine HNS.out.mono ?_
                rintro e w5 ⟨s, u1, u2, u3, rfl, hb, hbel, hrep, ho1, ho2, ho3⟩
                have hbB : Below wr.heap.size wr w5 := (Below.refl wr.heap.size wr).drew.trans hbel
                have hbs : wr.heap.size ≤ s := hb
                have HM6 := Lib.hid (HM5.out.grow hbB (StageS.addScx HM5.out.stage hbB hbs HM5.out.below.size hrep trivial))
                have HLT := Lib.hid (show ∀ k ∈ fs, k < s from fun k hk => by
                  obtain ⟨o, ho⟩ := Option.isSome_iff_exists.1 (HM5.out.stage.f k hk)
                  have := (HM5.out.stage.rep.scx _ _ ho).lt
                  omega)
                have HPM6 := Lib.hid (show PlanMemS w5 w.heap.size ⟨u1, u2, u3, p.at_, p.fld, rp rs p.old, rp rs p.new, 0, false⟩ rs fs p from ⟨own_weaken (by simpa [List.take_of_length_le] using ho1) HM5.out.below.size, own_weaken (by simpa [List.take_of_length_le] using ho2) HM5.out.below.size, own_weaken ho3 HM5.out.below.size, rfl, rfl, rfl, rfl⟩)
                have HX6 := Lib.hid (HXr.out.below hbB HXr.out.lt)
                clear hb hbel hrep ho1 ho2 ho3 hbB hbs HNS HRC HM5 HXr t2 t3 t4 t5 t6 o0 o1 n0 n1
                have HTN := Lib.hid (tape_new w5)
                go_wp2_with fail
                refine HTN.out.mono ?_
                rintro e w6 ⟨t, rfl, htp, hb6⟩
                have HM7 := Lib.hid (HM6.out.on hb6)
                have HPM7 := Lib.hid (HPM6.out.below hb6)
                have HX7 := Lib.hid (HX6.out.below hb6 HX6.out.lt)
                have hgt : GAtI w6 w5.heap.size (some t) [] := fun t' e => by cases e; exact htp
                have hFl : ∀ i, i < rs.length → FF rs d j 0 i = (d.fields.getD i []).map (rp rs) := fun i hi => by
                  have := HRL.out
                  unfold FF; rw [if_pos (by omega)]
                obtain ⟨fb, bv, bi, bf, cv, ci, cf, rv, ri, rf, hH, hge⟩ := helpAtS HM7.out.stage (upd_self _ _ _) HPM7.out HRL.out HXF.out (fun i hi => by rw [hFl i hi, List.length_map]) hgt hb6.size
                obtain ⟨hs1, hs2, hs3⟩ := stage_helped HM7.out.stage (upd_self _ _ _) hFl HRL.out HFM.out HXF.out rfl rfl rfl rfl
                have hks := helped_kinds HM7.out.stage HLT.out HRL.out HFD.out HFM.out HXF.out HXM.out rfl scx.toNat (o := ⟨u1, u2, u3, p.at_, p.fld, rp rs p.old, rp rs p.new, 0, false⟩)
                have HHP := Lib.hid (help_string _ _ _ _ _ _ _ _ _ _ _ _ _ _ _ _ _ _ _ _ _ hH (by simp) (by simp; omega))
                have HW5 := Lib.hid (HM6.out.below.size)
                have HGT := Lib.hid hgt
                have HH := Lib.hid hH
                have HGE := Lib.hid hge
                have HS1 := Lib.hid hs1
                have HS2 := Lib.hid hs2
                have HS3 := Lib.hid hs3
                have HKS := Lib.hid hks
                clear htp hb6 hgt hFl hH hge hs1 hs2 hs3 hks HTN HM6 HPM6 HX6
                go_wp2_with fail
                refine HHP.out.mono ?_
                rintro e w7 ⟨he, hst, hrep⟩
                rw [HS1.out] at he
                subst he
                have HM8 := Lib.hid (HM7.out.helped HGT.out HH.out hst HW5.out HGE.out (HS3.out w7 hrep))
                have HPM8 := Lib.hid ((HPM7.out.helped HGT.out HH.out hst).cong (o' := ⟨u1, u2, u3, p.at_, p.fld, rp rs p.old, rp rs p.new, 1, true⟩) rfl rfl rfl rfl rfl rfl rfl)
                have HX8 := Lib.hid (plan_helped HX7.out HGT.out HH.out hst)
                have hst2 := hst.gate
                rw [HKS.out, List.nil_append] at hst2
                have HG8 := Lib.hid hst2
                have hX3 := congrFun HS2.out s
                rw [upd_self] at hX3
                have HO8 := Lib.hid hX3
                clear hst hrep hst2 hX3 HM7 HPM7 HX7 HGT HH HGE HS1 HS2 HS3 HKS HHP HW5
                obtain ⟨R3, X3, HM9, HO9⟩ : ∃ R3 X3, Hid (LInv w w.heap.size bs [.slice v.A0 d.fields.length v.c0, .slice v.A1 d.infos.length v.c1, .slice v.A2 d.marks.length v.c2, .slice v.A3 d.states.length v.c3, .slice v.A4 d.frozen.length v.c4, .slice (some ⟨pb, po, none⟩) l.length c, .slice As ns cs, .slice Ap np cp] w7 R3 X3 rs rs fs [s] u (fun i => (rowH d p i).map (rp rs)) (infH p fs s) (finH p) (fun _ q => q.state = 1 ∧ q.frozen = true)) ∧ Hid (X3 s = some ⟨u1, u2, u3, p.at_, p.fld, rp rs p.old, rp rs p.new, 1, true⟩) := ⟨_, _, HM8, HO8⟩
                clear HM8 HO8
                have HSt := Lib.hid (show Calls Tryz.prog 13 #[pv (some s), .nilIface] w7 fun e w' => e = .returned (.int .i64 1) ∧ w7 = w' from staten_string R3 X3 w7 HM9.out.stage.rep s _ HO9.out (by show (0 : Int) ≤ 1; decide) (by show (1 : Int) ≤ 1000; decide))
                have HAf := Lib.hid (allfrozenn_true_string R3 X3 w7 HM9.out.stage.rep s _ HO9.out rfl)
                have hscn : ((scx.toNat : Nat) : Int) = scx := by omega
                have HSC := Lib.hid hscn
                have HKI := Lib.hid (kin_good (scx := scx) HCK.out ⟨by omega, by rw [List.length_map]; exact hin1⟩)
                have HRK := Lib.hid (ref13_Kinds w7 v d _ c l scx (HV.out.below HM9.out.below) (HP.out.below HM9.out.below) hl hl3 HR.out hl4 HL5.out)
                rw [HKI.out, HGD.out] at HRK
                rw [hscn] at HG8
                try simp only at HRK
                have HKL := Lib.hid (show (helpH d p scx).2.1.length ≤ 100000 from by have h := help_len d p scx; have := HXL.out; (try simp only at this); omega)
                have c0 := HM9.out.box.cell 0
                have c1 := HM9.out.box.cell 1
                have c2 := HM9.out.box.cell 2
                have c3 := HM9.out.box.cell 3
                have c4 := HM9.out.box.cell 4
                have c5 := HM9.out.box.cell 5
                simp only [List.getElem?_cons_zero, List.getElem?_cons_succ] at c0 c1 c2 c3 c4 c5
                clear hscn HKI
                generalize (helpH d p scx).2.1 = ks at *
                go_wp2_with fail
                refine HSt.out.mono ?_
                rintro e w' ⟨rfl, rfl⟩
                go_wp2_with fail
                refine HAf.out.mono ?_
                rintro e w' ⟨rfl, rfl⟩
                go_wp2_with fail
                refine HRK.out.mono ?_
                rintro e w8 ⟨v8, rfl, hown8, hb8⟩
                have HM10 := Lib.hid (HM9.out.on hb8)
                have HPM10 := Lib.hid (HPM8.out.below hb8)
                have HX10 := Lib.hid (HX8.out.below hb8 HX8.out.lt)
                have HTK := Lib.hid (tape_kinds w8 _ t ks ((HG8.out.below0 hb8 (fun _ => False)).gate t rfl) (by have := HKL.out; omega))
                obtain ⟨A8, c8, e8, hr8, _⟩ := owns_slice hown8
                have HR8 := Lib.hid hr8
                subst e8
                clear hown8 hb8 hr8 HRK HSt HAf HM9 HPM8 HX8 HG8 c0 c1 c2 c3 c4 c5
                go_wp2_with fail
                refine HTK.out.mono ?_
                rintro e w9 ⟨v9, rfl, hown9, hb9⟩
                have HM11 := Lib.hid (HM10.out.on hb9)
                have HPM11 := Lib.hid (HPM10.out.below hb9)
                have HX11 := Lib.hid (HX10.out.below hb9 HX10.out.lt)
                obtain ⟨A9, c9, e9, hr9, _⟩ := owns_slice hown9
                have HIS := Lib.hid (ref02_Ints A9 c9 ks A8 c8 ks w9 hr9 (HR8.out.below hb9) (by have := HKL.out; omega))
                subst e9
                clear hown9 hb9 hr9 HTK HM10 HPM10 HX10 HR8
                go_wp2_with fail
                refine HIS.out.mono ?_
                rintro e w10 ⟨rfl, mm, hw⟩
                have hb10 : Below w9.heap.size w9 w10 := by rw [hw]; exact pw_below_drewN (Below.refl _ _) mm
                have HM12 := Lib.hid (HM11.out.on hb10)
                have HPM12 := Lib.hid (HPM11.out.below hb10)
                have HX12 := Lib.hid (HX11.out.below hb10 HX11.out.lt)
                try rw [decide_eq_true rfl]
                try simp only [decide_true]
                obtain ⟨Ar, cr, hrs, _⟩ := HM12.out.rsAt
                clear hw hb10 HIS HM11 HPM11 HX11 HKL
                go_wp2
                clear hrs
                have HXR5 := Lib.hid (HXR.out.below HM12.out.below)
                have HV5 := Lib.hid (row1_of_C HXR5.out.h0)
                have HV6 := Lib.hid (HV.out.below HM12.out.below)
                have hrl64 : rs.length ≤ 64 := by have := HRL.out; omega
                have hat0 : 0 ≤ p.at_ := HXF.out.a.1
                have hat1 : p.at_ < p.V.length := HXF.out.a.2
                have hfl0 : 0 ≤ p.fld := HXF.out.f.1
                clear HXR4
                go_loopw [168] (fun k wr => ∃ i : Nat, i ≤ rs.length ∧ k = .int .i64 i ∧ w10 = wr) (fun k _ => rs.length - (intOf k).toNat)
                case atStart => exact ⟨0, Nat.zero_le _, rfl, rfl⟩
                case round =>
                  obtain ⟨i, hi, rfl, hw⟩ := hrel
                  subst hw
                  by_cases hlt5 : i < rs.length
                  · obtain ⟨ar, cr', m0, g0⟩ := HM12.out.at_ hlt5
                    have hbi : rs[i]? = some rs[i] := List.getElem?_eq_getElem hlt5
                    rw [hbi] at g0
                    obtain ⟨fb, hfb, _⟩ := HM12.out.stage.r i _ hbi
                    have HFB := Lib.hid hfb
                    generalize rs[i] = b at *
                    have g1 : w10.cell? ⟨ar, i, none⟩ = some (.pointer (some ⟨b, 0, none⟩)) := g0
                    have t0 : w10.cell? ⟨bx, 0, none⟩ = some (.slice B0 p.V.length k0) := HX12.out.cell 0
                    have HAS := Lib.hid (law13_has B0 k0 p.V i w10 HV5.out (by omega))
                    have HMD := Lib.hid (show Calls Tryz.prog 19 #[pv (some b), .nilIface] w10 fun e w' => e = .returned (.bool (finH p i)) ∧ w10 = w' from by
                      cases h : finH p i
                      · exact markedn_false_string R3 X3 w10 HM12.out.stage.rep b _ hfb h
                      · exact markedn_true_string R3 X3 w10 HM12.out.stage.rep b _ hfb h)
                    have HIN := Lib.hid (infon_string R3 X3 w10 HM12.out.stage.rep b _ hfb)
                    have hinf : decide (infH p fs s i = some s) = decide ((i : Int) ∈ p.V) := by
                      refine decide_eq_decide.2 ?_
                      unfold infH
                      split
                      · rename_i h; exact ⟨fun _ => h, fun _ => rfl⟩
                      · rename_i h
                        exact ⟨fun e => absurd (HLT.out s (List.mem_of_getElem? e)) (Nat.lt_irrefl s), fun e => absurd e h⟩
                    have heq := eql_sscx (HM12.out.stage.rep.scxPtr (HM12.out.stage.rep.okInfo hfb)) (HM12.out.stage.rep.scxPtr (Ok.of HO9.out))
                    simp only [hinf] at heq
                    clear g0 hbi hfb hinf
                    simp only at HIN
                    generalize decide ((i : Int) ∈ p.V) = mv at *
                    generalize infH p fs s i = iv at *
                    have HEQ := Lib.hid heq
                    clear heq
                    go_wp2_with fail
                    refine HAS.out.mono ?_
                    rintro e w' ⟨rfl, hw⟩
                    subst w'
                    clear HAS
                    go_wp2
                    have HZ0 := Lib.hid (finU_zero p i)
                    clear t0
                    go_loopw [178, 23] (fun k fv wr => ∃ q : Nat, q ≤ p.V.length ∧ k = .int .i64 q ∧ fv = .bool (finU p i q) ∧ w10 = wr) (fun k _ _ => p.V.length - (intOf k).toNat)
                    case atStart => exact ⟨0, Nat.zero_le _, rfl, by rw [HZ0.out], rfl⟩
                    case round =>
                      obtain ⟨q, hq, rfl, rfl, hw⟩ := hrel
                      subst hw
                      by_cases hlt6 : q < p.V.length
                      · --[
                        have hqf : q < p.fin.length := by have := HXF.out.v2; (try simp only at this); omega
                        have hfl64 : p.fin.length ≤ 64 := by have := HXF.out.v2; (try simp only at this); omega
                        obtain ⟨ad1, hA1, hr1⟩ := int_at HXR5.out.h0 hlt6
                        obtain ⟨ad2, hA2, hr2⟩ := bool_at HXR5.out.h2 hqf
                        have HFS := Lib.hid (finU_step p i q hlt6 hqf)
                        have t0 : w10.cell? ⟨bx, 0, none⟩ = some (.slice B0 p.V.length k0) := HX12.out.cell 0
                        have t2 : w10.cell? ⟨bx, 2, none⟩ = some (.slice B2 p.fin.length k2) := HX12.out.cell 2
                        clear hlt5 m0 g1
                        generalize p.V[q] = n at *
                        generalize p.fin[q] = fq at *
                        simp only at hA1 hA2 hr1 hr2
                        subst hA1 hA2
                        cases hfu : finU p i q
                        · by_cases hn : n = (i : Int)
                          · have hnb : ((n : Int) == (i : Int)) = true := by rw [beq_iff_eq]; exact hn
                            have HFS2 := Lib.hid (show finU p i (q + 1) = fq from by rw [HFS.out, hfu, hnb]; simp)
                            clear HFS hfu hn
                            cases fq
                            all_goals
                              go_wp2
                              go_roundw
                              case rel => exact ⟨q + 1, by omega, by go_num, by rw [HFS2.out], by first | rfl | trivial⟩
                              case measure => simp [intOf]; omega
                          · have hnb : ((n : Int) == (i : Int)) = false := by rw [beq_eq_false_iff_ne]; exact hn
                            have HFS2 := Lib.hid (show finU p i (q + 1) = false from by rw [HFS.out, hfu, hnb]; simp)
                            clear HFS hfu hn
                            go_wp2
                            go_roundw
                            case rel => exact ⟨q + 1, by omega, by go_num, by rw [HFS2.out], by first | rfl | trivial⟩
                            case measure => simp [intOf]; omega
                        · have HFS2 := Lib.hid (show finU p i (q + 1) = true from by rw [HFS.out, hfu]; simp)
                          clear HFS hfu
                          go_wp2
                          go_roundw
                          case rel => exact ⟨q + 1, by omega, by go_num, by rw [HFS2.out], by first | rfl | trivial⟩
                          case measure => simp [intOf]; omega
                        --]
                      · have hqe : q = p.V.length := by omega
                        subst hqe
                        have HFA := Lib.hid (finU_all p i (by have := HXF.out.v2; exact this))
                        rw [← HFA.out] at HMD
                        generalize finU p i p.V.length = fv at *
                        have heq := HEQ.out
                        clear HFA hlt6 hq
                        obtain ⟨ad, hA, A', c', hr0, _, hrow⟩ := row_at HV6.out.h0 (j := i) (by rw [← HRL.out]; exact hlt5)
                        have hif : i < d.fields.length := by rw [← HRL.out]; exact hlt5
                        have HD := Lib.hid (show d.fields.getD i [] = d.fields[i] by simp [List.getD_eq_getElem?_getD, List.getElem?_eq_getElem hif])
                        have hn64 := HL1.out d.fields[i] (List.getElem_mem hif)
                        have HFr := Lib.hid (HFb.out d.fields[i] (List.getElem_mem hif))
                        have HFL := Lib.hid (show p.V.getD p.at_.toNat 0 = (i : Int) → p.fld < (d.fields.getD i []).length from fun e => by have := HXF.out.f.2; rw [e, Int.toNat_natCast] at this; exact this)
                        have hb0 : w10.cell? ⟨w.heap.size, 0, none⟩ = some (.slice v.A0 d.fields.length v.c0) := HM12.out.box.cell 0
                        generalize d.fields[i] = row at *
                        have HRow := Lib.hid hrow
                        clear hrow
                        obtain ⟨A0, c0, A1, c1, A2, c2, A3, c3, A4, c4⟩ := v
                        simp only at hA hb0
                        subst hA
                        have HIF2 := HRL.out.symm
                        clear HIF2
                        go_wp2_with fail
                        refine HMD.out.mono ?_
                        rintro e w' ⟨rfl, rfl⟩
                        go_wp2_with fail
                        refine HIN.out.mono ?_
                        rintro e w' ⟨rfl, rfl⟩
                        go_wp2
                        clear heq hb0 hr0
                        go_loopw [224] (fun k wr => ∃ k' : Nat, k' ≤ row.length ∧ k = .int .i64 k' ∧ w10 = wr) (fun k _ => row.length - (intOf k).toNat)
                        case atStart => exact ⟨0, Nat.zero_le _, rfl, rfl⟩
                        case round =>
                          obtain ⟨k, hk, rfl, hw⟩ := hrel
                          subst hw
                          by_cases hlt7 : k < row.length
                          · --[
                            obtain ⟨ad1, hA1, hr1⟩ := int_at HRow.out hlt7
                            try simp only at hA1
                            subst hA1
                            have hkl : k < (d.fields.getD i []).length := by rw [HD.out]; exact hlt7
                            have HNN := Lib.hid (show (d.fields.getD i [])[k] = row[k] from by simp only [HD.out])
                            have hnb := HFr.out row[k] (List.getElem_mem hlt7)
                            have hx0 : (p.V.map (Value.int .i64))[p.at_.toNat]? = some (.int .i64 (p.V.getD p.at_.toNat 0)) := by
                              simp [List.getD_eq_getElem?_getD, List.getElem?_eq_getElem (show p.at_.toNat < p.V.length by omega)]
                            obtain ⟨ad2, hA2, hcv⟩ := HV5.out.at_ hx0
                            try simp only at hA2
                            subst hA2
                            have t0 : w10.cell? ⟨bx, 0, none⟩ = some (.slice (some ad2) p.V.length k0) := HX12.out.cell 0
                            have t3 : w10.cell? ⟨bx, 3, none⟩ = some (.int .i64 p.at_) := HX12.out.cell 3
                            have t4 : w10.cell? ⟨bx, 4, none⟩ = some (.int .i64 p.fld) := HX12.out.cell 4
                            have t5 : w10.cell? ⟨bx, 5, none⟩ = some (.int .i64 p.old) := HX12.out.cell 5
                            have t6 : w10.cell? ⟨bx, 6, none⟩ = some (.int .i64 p.new) := HX12.out.cell 6
                            have hgl : k < (rowH d p i).length := by rw [rowH_len]; exact hkl
                            have hgt := getn_string R3 X3 w10 HM12.out.stage.rep b _ HFB.out (k : Int) (by omega) (by simp only [List.length_map]; omega)
                            simp only [Int.toNat_natCast, map_getD_rp rs _ _ hgl] at hgt
                            have HAT := Lib.hid (fun h : p.V.getD p.at_.toNat 0 = (i : Int) ∧ p.fld = (k : Int) ∧ p.old = row[k] => rowH_at d p i k hkl hfl0 ⟨h.1, h.2.1, by rw [h.2.2, HNN.out]⟩)
                            have HNT := Lib.hid (fun h : ¬ (p.V.getD p.at_.toNat 0 = (i : Int) ∧ p.fld = (k : Int) ∧ p.old = row[k]) => (rowH_not d p i k hkl hfl0 HFL.out (fun h' => h ⟨h'.1, h'.2.1, by rw [h'.2.2, HNN.out]⟩)).trans HNN.out)
                            have HRC := Lib.hid (fun n n0 n1 => law13_at HM12.out n n0 n1)
                            have HNQ := Lib.hid (fun n => neq_srec (HM12.out.stage.rep.recPtr (HM12.out.stage.okR n)))
                            have HGT := Lib.hid hgt
                            have hn0 : -1 ≤ row[k] := hnb.1
                            have hn1 : row[k] < rs.length := by rw [HRL.out]; exact hnb.2
                            have o0 : -1 ≤ p.new := HXF.out.n.1
                            have o1 : p.new < rs.length := by rw [HRL.out]; exact HXF.out.n.2
                            clear HNN hnb hx0 hgl hgt hkl
                            generalize p.V.getD p.at_.toNat 0 = va at *
                            generalize (rowH d p i).getD k 0 = y at *
                            generalize row[k] = n at *
                            by_cases a1 : va = (i : Int)
                            · have b1 : ((va : Int) == (i : Int)) = true := by rw [beq_iff_eq]; exact a1
                              by_cases a2 : p.fld = (k : Int)
                              · have b2 : ((p.fld : Int) == (k : Int)) = true := by rw [beq_iff_eq]; exact a2
                                by_cases a3 : p.old = n
                                · have b3 : ((p.old : Int) == (n : Int)) = true := by rw [beq_iff_eq]; exact a3
                                  have hy : y = p.new := HAT.out ⟨a1, a2, a3⟩
                                  rw [hy] at HGT
                                  have hneq := HNQ.out p.new
                                  have HAN := Lib.hid (HRC.out p.new (by assumption) (by assumption))
                                  clear HRC HNQ HAT HNT HMD HIN HEQ hy a1 a2 a3
                                  generalize rp rs p.new = z at *
                                  go_wp2_with fail
                                  refine HGT.out.mono ?_
                                  rintro e w' ⟨rfl, rfl⟩
                                  go_wp2_with fail
                                  refine HAN.out.mono ?_
                                  rintro e w' ⟨rfl, rfl⟩
                                  go_wp2
                                  go_roundw
                                  case rel => exact ⟨k + 1, by omega, by go_num, by first | rfl | trivial⟩
                                  case measure => simp [intOf]; omega
                                · have b3 : ((p.old : Int) == (n : Int)) = false := by rw [beq_eq_false_iff_ne]; exact a3
                                  have hy : y = n := HNT.out (fun h => a3 h.2.2)
                                  rw [hy] at HGT
                                  have hneq := HNQ.out n
                                  have HAN := Lib.hid (HRC.out n (by assumption) (by assumption))
                                  clear HRC HNQ HAT HNT HMD HIN HEQ hy a1 a2 a3
                                  generalize rp rs n = z at *
                                  go_wp2_with fail
                                  refine HGT.out.mono ?_
                                  rintro e w' ⟨rfl, rfl⟩
                                  go_wp2_with fail
                                  refine HAN.out.mono ?_
                                  rintro e w' ⟨rfl, rfl⟩
                                  go_wp2
                                  go_roundw
                                  case rel => exact ⟨k + 1, by omega, by go_num, by first | rfl | trivial⟩
                                  case measure => simp [intOf]; omega
                              · have b2 : ((p.fld : Int) == (k : Int)) = false := by rw [beq_eq_false_iff_ne]; exact a2
                                have hy : y = n := HNT.out (fun h => a2 h.2.1)
                                rw [hy] at HGT
                                have hneq := HNQ.out n
                                have HAN := Lib.hid (HRC.out n (by assumption) (by assumption))
                                clear HRC HNQ HAT HNT HMD HIN HEQ hy a1 a2
                                generalize rp rs n = z at *
                                go_wp2_with fail
                                refine HGT.out.mono ?_
                                rintro e w' ⟨rfl, rfl⟩
                                go_wp2_with fail
                                refine HAN.out.mono ?_
                                rintro e w' ⟨rfl, rfl⟩
                                go_wp2
                                go_roundw
                                case rel => exact ⟨k + 1, by omega, by go_num, by first | rfl | trivial⟩
                                case measure => simp [intOf]; omega
                            · have b1 : ((va : Int) == (i : Int)) = false := by rw [beq_eq_false_iff_ne]; exact a1
                              have hy : y = n := HNT.out (fun h => a1 h.1)
                              rw [hy] at HGT
                              have hneq := HNQ.out n
                              have HAN := Lib.hid (HRC.out n (by assumption) (by assumption))
                              clear HRC HNQ HAT HNT HMD HIN HEQ hy a1
                              generalize rp rs n = z at *
                              go_wp2_with fail
                              refine HGT.out.mono ?_
                              rintro e w' ⟨rfl, rfl⟩
                              go_wp2_with fail
                              refine HAN.out.mono ?_
                              rintro e w' ⟨rfl, rfl⟩
                              go_wp2
                              go_roundw
                              case rel => exact ⟨k + 1, by omega, by go_num, by first | rfl | trivial⟩
                              case measure => simp [intOf]; omega
                            --]
                          · have hke : k = row.length := by omega
                            subst hke
                            clear HMD HIN
                            go_wp2
                            go_roundw
                            case rel => exact ⟨i + 1, by omega, by go_num, by first | rfl | trivial⟩
                            case measure => simp [intOf]; omega
                  · have hie : i = rs.length := by omega
                    subst hie
                    --[
                    have hgt : GAtI w10 w10.heap.size none [] := fun t' e => nomatch e
                    obtain ⟨fb, bv, bi, bf, cv, ci, cf, rv, ri, rf, hH, hge⟩ := helpAtS HM12.out.stage HO9.out HPM12.out HRL.out HXF.out (fun i hi => by rw [List.length_map, rowH_len]) hgt (Nat.le_refl _)
                    have hfz := helpR_frozen R3 X3 s ⟨u1, u2, u3, p.at_, p.fld, rp rs p.old, rp rs p.new, 1, true⟩ (vsH rs p) (isH fs p) p.fin rfl
                    obtain ⟨o', hx', hs'⟩ := helpR_state R3 X3 s ⟨u1, u2, u3, p.at_, p.fld, rp rs p.old, rp rs p.new, 1, true⟩ (vsH rs p) (isH fs p) p.fin rfl rfl HO9.out
                    have HHP := Lib.hid (help_string _ _ _ _ _ _ _ _ _ _ _ _ _ _ _ _ _ _ _ _ _ hH (by simp) (by simp; omega))
                    have HGT := Lib.hid hgt
                    have HGE := Lib.hid hge
                    have HFZ := Lib.hid hfz
                    have HX' := Lib.hid hx'
                    have HS' := Lib.hid hs'
                    clear hgt hH hge hfz hx' hs' HV5 HV6 hat0 hat1 hfl0
                    go_wp2_with fail
                    refine HHP.out.mono ?_
                    rintro e w11 ⟨he, hst, hrep⟩
                    rw [HFZ.out] at he
                    subst he
                    have hbl : Below w.heap.size w w11 := HM12.out.below.trans (hst.fr.below HM12.out.below.size (fun k hk => by
                      rcases hk with hk | hk
                      · exact Nat.le_trans HM12.out.below.size (HGT.out.foot hk).1
                      · exact HGE.out k hk))
                    have hst2 := staten_string _ _ w11 hrep s o' HX'.out (by rw [HS'.out]; decide) (by rw [HS'.out]; decide)
                    rw [HS'.out] at hst2
                    have HST := Lib.hid hst2
                    have HBL := Lib.hid hbl
                    clear hst hrep hst2 hbl
                    go_wp2_with fail
                    refine HST.out.mono ?_
                    rintro e w' ⟨rfl, rfl⟩
                    go_wp2
                    exact HQ'.out _ _ ⟨rfl, HBL.out⟩
                    --]

end Go.Proofs.YtphhdmopfmelbaaGreat

namespace Go.Proofs.YtphhdmopfmelbaaGreat.helpCalls
open Go.ChangeShapes Go.WideShapes Go.ChangeAt Go.RowKit
open Go.ChangeMaps (open_string shut_string)
set_option linter.unusedVariables false
theorem own : ownKnob Tryz.prog.godebug = none := by kernel_rfl
theorem laidOut : laidOutB Tryz.prog = true := by kernel_rfl
set_option maxRecDepth 100000 in
theorem lifted (os : Os) (started : os.Started) (H : Type) (enc : TypeId × Value → H) (G : Stop.Interp) :
    ReturnsInHanded {} Tryz.checked os 3 .any ((Rows.OpenSpec.upto Rows.helpCallsSpec).pre6 enc Tryz.prog Tryz.f3 Rows.helpCallsUptoRow.domain false) (((Rows.OpenSpec.upto Rows.helpCallsSpec).at G).post enc Tryz.prog Tryz.f3 false true false false) := by
  refine returnsInHanded_of_cond_sized (C := Tryz.checked) (s := Rows.OpenSpec.upto Rows.helpCallsSpec) (k := Rows.uptoSmall) rfl own started (by kernel_rfl) Tryz.func3
    (OpenSpec.witness (enc := enc) (C := Tryz.checked) (s := Rows.OpenSpec.upto Rows.helpCallsSpec) (k := Rows.uptoSmall) rfl false ⟨#[], #[.agg #[.slice none 0 0, .slice none 0 0, .slice none 0 0, .slice none 0 0, .slice none 0 0, .slice none 0 0, .slice none 0 0, .slice none 0 0], .int .i64 0], []⟩ 8 (by kernel_rfl) (by kernel_rfl) (by kernel_rfl)
      (x := ([.agg [.agg [.nil, .nil, .nil, .nil, .nil], .nil, .nil, .nil], .lit (.int .i64 0)], [], [])) (by kernel_rfl) rfl (by kernel_rfl)) ?_
  intro W base args ds gs before hval0 hW hcnd _ hsz0 _
  have hsz : (DataW.weightsEach Tryz.prog (Tryz.f3.params.toList ++ Rows.helpCallsSpec.plain.varTypes Tryz.prog) (ds ++ gs)).all (· ≤ reachBytes) = true := hsz0
  have hval : ∀ (j : Nat) t v, Tryz.f3.params[j]? = some t → args[j]? = some v → Value.okWide Tryz.prog W .any base t v := hval0
  have hW' := hW
  obtain ⟨p, q, hA0, hV, rfl, hfz, hnd⟩ := hW
  have hA : DataW.TrodAll enc Tryz.prog W 0 (fun _ => true) true Tryz.f3.params.toList args.toList ds p := hA0
  rw [Tryz.params3] at hA hval hsz
  obtain ⟨v0, vs0, d0, ds0, p0, q0, hargs, rfl, rfl, h0, r0⟩ := trodAll_cons hA
  obtain ⟨v1, vs1, d1, ds1, p1, q1, rfl, rfl, rfl, h1, r1⟩ := trodAll_cons r0
  obtain ⟨rfl, rfl, rfl⟩ := trodAll_nil r1
  obtain rfl : args = #[v0, v1] := by cases args; simp_all
  obtain ⟨rfl, rfl⟩ := trodVars_none hV
  have k0 := h0
  have k1 := h1
  have lt0 : ∀ x ∈ p0, x.block < W.heap.size := by obtain ⟨m, hm⟩ := k0; exact DataW.trod_lt m _ _ _ hm
  have lt1 : ∀ x ∈ p1, x.block < W.heap.size := by obtain ⟨m, hm⟩ := k1; exact DataW.trod_lt m _ _ _ hm
  have hsm : Small TCA13 d0 := fun m hm => by
    have h1 := List.all_eq_true.1 hsz m (DataW.weights_mem_each (j := 0) (t := TCA13) (d := d0) rfl rfl m hm)
    have h2 : m ≤ reachBytes := of_decide_eq_true h1
    exact h2
  obtain ⟨vv, dd, A, c, l, As, Ap, ns, cs, np, cp, rfl, hrd, hp, hl, hl3, hr, hl4, hl5⟩ := open_case13 (hval 0 TCA13 v0 rfl rfl) h0 hsm
  obtain ⟨scx, rfl⟩ := okWide_int Tryz.underlying3 (hval 1 3 v1 rfl rfl)
  clear hA0 hval0 hsz0 hsz hsm
  refine (law13_HelpCalls W vv dd A c l As Ap ns cs np cp scx hrd hp hl hl3 hr (by omega) (fun x hx => by have := hl5 x hx; omega)).mono fun e W' ⟨he, bel⟩ => ?_
  subst he
  exact ⟨_, rfl, _, _, _, [], _, [], hW', trodAll_mk1 (shut_bool Tryz.underlying4 _), (trodAll_cons_mk (Below.trod laidOut (by kernel_rfl) (of_decide_eq_true (by kernel_rfl)) k0 bel lt0) (trodAll_cons_mk (Below.trod laidOut (by kernel_rfl) (of_decide_eq_true (by kernel_rfl)) k1 bel lt1) trodAll_mk0)), rfl, bel.frame _, fun h => by cases h⟩
theorem over : Rows.helpCallsUptoRow.holds Tryz.pinned (Rows.OpenSpec.upto Rows.helpCallsSpec) :=
  OpenClaim.holds_of_cond 3 Tryz.f3 rfl rfl rfl rfl rfl rfl rfl ⟨rfl, rfl, rfl, rfl, rfl⟩ rfl rfl rfl rfl rfl (by kernel_rfl) Tryz.func3 (by kernel_rfl)
    (of_decide_eq_true (by kernel_rfl)) (by unfold Func.isWrapper; first | (rw [if_pos (by decide +kernel)]; kernel_rfl) | (rw [if_neg (by decide +kernel)]; exact ⟨rfl, rfl⟩))
    (fun os started H enc _ G => lifted os started H enc G)
theorem proved : Rows.HelpCallsUptoSaid := over
end Go.Proofs.YtphhdmopfmelbaaGreat.helpCalls
namespace Go.Proofs.YtphhdmopfmelbaaGreat
theorem helpCallsUpto_holds : Rows.HelpCallsUptoSaid := helpCalls.proved
#print axioms helpCallsUpto_holds
end Go.Proofs.YtphhdmopfmelbaaGreat
