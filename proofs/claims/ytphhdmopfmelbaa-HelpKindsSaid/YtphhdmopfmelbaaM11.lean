/- Joined texts: Ref13K Tape HelpN HelpO Law13A. -/
import Derived.Test.YtphhdmopfmelbaaM1
import Derived.Test.YtphhdmopfmelbaaM3
import Derived.Test.YtphhdmopfmelbaaM5
import Derived.Test.YtphhdmopfmelbaaM6
import Derived.Test.YtphhdmopfmelbaaM7
import Derived.Test.YtphhdmopfmelbaaM9
import Derived.Test.YtphhdmopfmelbaaM10

/- larchref13: Kinds. -/
namespace Go.Proofs.Ytphhdmopfmelbaa
open Go.RowKit Go.Proofs.YtphhdmopfmelbaaW.PrintWords
set_option linter.unusedVariables false
set_option linter.unusedSimpArgs false

theorem OutW.low {B B' : Nat} {d : WD} {fv iv mv sv zv : Value} {bs : List Value} {w : World} (h : OutW B' d fv iv mv sv zv bs w) (hB : B ≤ B') : OutW B d fv iv mv sv zv bs w :=
  ⟨own_weaken h.f hB, fun i u r h1 h2 => own_weaken (h.inn i u r h1 h2) hB, h.dd, own_weaken h.i hB, own_weaken h.m hB, own_weaken h.s hB, own_weaken h.z hB, h.dib, h.dsb, h.dis, h.dmz⟩
instance : Inhabited PlanD := ⟨⟨[], [], [], 0, 0, 0, 0⟩⟩
open Classical in
/-- What Kinds answers: the error, the kinds. -/
noncomputable def kinH (d : WD) (ps : List PlanD) (scx : Int) : Int × List Int :=
  if chkH d ps ≠ 0 then (chkH d ps, []) else if inH scx 0 ps.length then (0, (helpH d (ps.getD scx.toNat default) scx).2.1) else (1, [])
theorem kin_bad {d : WD} {ps : List PlanD} {scx : Int} (h : chkH d ps ≠ 0) : kinH d ps scx = (chkH d ps, []) := by unfold kinH; rw [if_pos h]
theorem kin_out {d : WD} {ps : List PlanD} {scx : Int} (h : chkH d ps = 0) (hn : ¬ inH scx 0 ps.length) : kinH d ps scx = (1, []) := by unfold kinH; rw [if_neg (by simp [h]), if_neg hn]
theorem kin_good {d : WD} {ps : List PlanD} {scx : Int} (h : chkH d ps = 0) (hn : inH scx 0 ps.length) : kinH d ps scx = (0, (helpH d (ps.getD scx.toNat default) scx).2.1) := by unfold kinH; rw [if_neg (by simp [h]), if_pos hn]
/-- What a Kinds leaves. -/
def KinPost (w : World) (r : Int × List Int) (e : Ending) (w' : World) : Prop := ∃ v, e = .returned (.tuple #[v, .int .i64 r.1]) ∧ w'.ownsRow w.heap.size TII 1 v r.2.length (r.2.map (Value.int .i64)) ∧ Below w.heap.size w w'
theorem frz_len (scx : Int) : ∀ (l : List (Int × Int)) (d : WD), (frzH scx d l).2.2.length ≤ 2 * l.length := fun l => by
  induction l with
  | nil => intro d; simp [frzH]
  | cons x l ih =>
    intro d
    obtain ⟨r, i⟩ := x
    unfold frzH
    split
    · have := ih { d with infos := d.infos.set r.toNat scx }
      simp only [List.length_cons]; omega
    · split
      · have := ih d
        simp only [List.length_cons]; omega
      · simp only [List.length_cons, List.length_nil]; omega
theorem mrk_len : ∀ (l : List (Int × Bool)) (d : WD), (mrkH d l).2.length ≤ l.length := fun l => by
  induction l with
  | nil => intro d; simp [mrkH]
  | cons x l ih =>
    intro d
    obtain ⟨r, f⟩ := x
    unfold mrkH
    split
    · have := ih { d with marks := d.marks.set r.toNat true }
      simp only [List.length_cons]; omega
    · have := ih d
      simp only [List.length_cons]; omega
theorem help_len (d : WD) (p : PlanD) (scx : Int) : (helpH d p scx).2.1.length ≤ 3 * p.V.length + 4 := by
  have h1 := frz_len scx (p.V.zip p.infos) d
  have h2 : (p.V.zip p.infos).length ≤ p.V.length := by rw [List.length_zip]; omega
  unfold helpH
  simp only
  split
  · have h4 : (p.V.zip p.fin).length ≤ p.V.length := by rw [List.length_zip]; omega
    have h5 : ∀ d', (mrkH d' (p.V.zip p.fin)).2.length ≤ p.V.length := fun d' => Nat.le_trans (mrk_len _ d') h4
    simp only [List.length_append, List.length_cons, List.length_nil]
    refine Nat.le_trans (Nat.add_le_add h1 (Nat.succ_le_succ (Nat.add_le_add_right (h5 _) _))) ?_
    omega
  · split <;> simp only [List.length_append, List.length_cons, List.length_nil] <;> omega
def lenV : Value → Nat | .slice _ n _ => n | _ => 0
theorem rest_inv {p : PlanD} {scx : Int} {d : WD} {s : HS} {ks : List Int} (h : Rest p scx d s ks) : ((stepH d s p scx).2.1 = true ∧ ks = [(stepH d s p scx).1]) ∨ ((stepH d s p scx).2.1 = false ∧ ∃ ks', ks = (stepH d s p scx).1 :: ks' ∧ Rest p scx (stepH d s p scx).2.2.2.2 (stepH d s p scx).2.2.2.1 ks') := by
  cases h with
  | last h => exact .inl ⟨h, rfl⟩
  | more h hr => exact .inr ⟨h, _, rfl, hr⟩
/-- While Kinds goes. -/
def KAt (wb : World) (bw hb : Nat) (p : PlanD) (scx : Int) (fv iv mv sv zv : Value) (us : List Value) (tot acc ks : List Int) (v : Value) (wr : World) : Prop :=
  ∃ d' s, StAt wb wr wr bw hb d' fv iv mv sv zv us scx s ∧ StOk d' p scx s ∧ Rest p scx d' s ks ∧ tot = acc ++ ks ∧ wr.ownsRow wb.heap.size TII 1 v acc.length (acc.map (Value.int .i64)) ∧ ∀ k, v.ownBlock = some k → ¬ OutFoot fv iv mv sv zv us k
set_option maxHeartbeats 8000000 in
set_option maxRecDepth 100000 in
theorem ref13_Kinds (w : World) (v : WV) (d : WD) (A : Option Addr) (c : Nat) (l : List PX) (scx : Int) (hv : v.Reads w d) (hp : PlansAt w A l) (hl : d.fields.length < 1000000000000000) (hl3 : d.states.length < 1000000000000000) (hr : ∀ r ∈ d.fields, r.length < 1000000000000000) (hl4 : l.length < 1000000000000000) (hl5 : ∀ x ∈ l, x.p.V.length < 1000000000000000) :
    Calls Try.prog 9 #[v.val d, .slice A l.length c, .int .i64 scx] w (KinPost w (kinH d (l.map PX.p) scx)) := by
  refine calls_hide fun Q HQ => ?_
  have HQ' := Lib.hid HQ
  have HV := Lib.hid hv
  have HP := Lib.hid hp
  have hbx := (Below.refl w.heap.size w).alloc (Nat.le_refl _) (.cells (v.cells d).toArray TRW3)
  have hbk := Blk.new w TRW3 (v.cells d)
  have HB := Lib.hid hbx
  have HK := Lib.hid hbk
  have HCK := Lib.hid (ref13_Check _ v d A c l (hv.below hbx) (hp.below hbx) hl hl3 hr hl4 hl5)
  have k0 := hbk.cell 0
  have k1 := hbk.cell 1
  have k2 := hbk.cell 2
  have k3 := hbk.cell 3
  have k4 := hbk.cell 4
  simp only [List.getElem?_cons_zero, List.getElem?_cons_succ] at k0 k1 k2 k3 k4
  clear HQ hv hp hbx hbk
  go_enter Try.func9, Try.ntmps9
  go_wp2_with fail
  refine HCK.out.mono ?_
  rintro e w1 ⟨rfl, hb1⟩
  have HB1 := Lib.hid (HB.out.trans (hb1.mono HB.out.size))
  have HK1 := Lib.hid (HK.out.below hb1 HK.out.lt)
  clear hb1 HB HK HCK k0 k1 k2 k3 k4
  by_cases hc : chkH d (l.map PX.p) = 0
  case neg =>
    have HR := Lib.hid (kin_bad (scx := scx) hc)
    rw [HR.out] at HQ'
    have hcb : (chkH d (l.map PX.p) != 0) = true := by rw [bne_iff_ne]; exact hc
    generalize chkH d (l.map PX.p) = ck at *
    clear HR hc
    go_wp2
    exact HQ'.out _ _ ⟨_, rfl, World.ownsRow_nil _ _ _ _, HB1.out⟩
  obtain ⟨hnb, hform, hps, hfits⟩ := chkH_zero hc
  have HC := Lib.hid hc
  by_cases hin : inH scx 0 l.length
  case neg =>
    have HR := Lib.hid (kin_out (scx := scx) hc (by rw [List.length_map]; exact hin))
    rw [HR.out] at HQ'
    have HI := Lib.hid (ref13_in_of scx 0 l.length false (inB_false.2 hin) w1)
    clear HR hnb hform hps hfits hin HC
    rw [hc]
    clear hc
    go_wp2_with fail
    refine HI.out.mono ?_
    rintro e w2 ⟨rfl, rfl⟩
    go_wp2
    exact HQ'.out _ _ ⟨_, rfl, World.ownsRow_nil _ _ _ _, HB1.out⟩
  have hin0 : 0 ≤ scx := hin.1
  have hin1 : scx < l.length := hin.2
  have hjn : scx.toNat < l.length := by omega
  have HI := Lib.hid (ref13_in_of scx 0 l.length true (inB_true.2 hin) w1)
  have HR := Lib.hid (kin_good (scx := scx) hc (by rw [List.length_map]; exact hin))
  rw [hc]
  have HXR := Lib.hid (HP.out.reads _ (List.getElem_mem hjn))
  have HXF := Lib.hid (hfits _ (List.mem_map_of_mem (List.getElem_mem hjn)))
  have HXL := Lib.hid (show (l[scx.toNat]).p.V.length ≤ 64 from Nat.le_of_not_lt fun h => hnb (.inr (.inr (.inr ⟨_, List.mem_map_of_mem (List.getElem_mem hjn), h⟩))))
  have HGD := Lib.hid (show (l.map PX.p).getD scx.toNat default = (l[scx.toNat]).p by simp [List.getD_eq_getElem?_getD, List.getElem?_eq_getElem hjn])
  rw [HR.out, HGD.out] at HQ'
  obtain ⟨pb, po, hA, p0, p1, p2, p3, p4, p5, p6⟩ := HP.out.at_ hjn
  have HC0 := Lib.hid p0
  have HC1 := Lib.hid p1
  have HC2 := Lib.hid p2
  have HC3 := Lib.hid p3
  have HC4 := Lib.hid p4
  have HC5 := Lib.hid p5
  have HC6 := Lib.hid p6
  clear p0 p1 p2 p3 p4 p5 p6 HR HGD hc HC
  generalize l[scx.toNat] = x at *
  obtain ⟨p, B0, k0, B1, k1, B2, k2⟩ := x
  replace HXF := Lib.hid (show p.Fits d from HXF.out)
  replace HXL := Lib.hid (show p.V.length ≤ 64 from HXL.out)
  have HRS := Lib.hid (rest_help (p := p) (scx := scx) HXF.out.v0 HXF.out.v1 HXF.out.v2 d)
  have HOK := Lib.hid (show StOk d p scx ⟨1, 0⟩ from ⟨hform.e1, hform.e2, hform.e4, HXF.out, hin0, by rw [← hps, List.length_map]; exact hin1, .inl rfl, fun _ => HXF.out.v0, Nat.zero_le _, HXL.out⟩)
  have hlen : d.fields.length ≤ 1000000000 ∧ d.infos.length * 8 ≤ 140737488351232 ∧ d.marks.length ≤ 140737488351232 ∧ d.states.length * 8 ≤ 140737488351232 ∧ d.frozen.length ≤ 140737488351232 := by
    have a1 : d.fields.length ≤ 64 := Nat.le_of_not_lt fun h => hnb (.inl h)
    have a2 : d.states.length ≤ 64 := Nat.le_of_not_lt fun h => hnb (.inr (.inl h))
    have := hform.e1; have := hform.e2; have := hform.e4
    omega
  have hrows : ∀ r ∈ d.fields, r.length * 8 ≤ 140737488351232 := fun r hr => by
    have : r.length ≤ 64 := Nat.le_of_not_lt fun h => hnb (.inr (.inr (.inl ⟨r, hr, h⟩)))
    omega
  have HCP := Lib.hid (ref13_Copy w1 v d (HV.out.below HB1.out) hlen hrows)
  have hll : l.length < 1000000 := by
    have a2 : d.states.length ≤ 64 := Nat.le_of_not_lt fun h => hnb (.inr (.inl h))
    rw [List.length_map] at hps
    omega
  have htl : (helpH d p scx).2.1.length ≤ (helpH d p scx).2.1.length := Nat.le_refl _
  have q0 := HK1.out.cell 0
  have q1 := HK1.out.cell 1
  have q2 := HK1.out.cell 2
  have q3 := HK1.out.cell 3
  have q4 := HK1.out.cell 4
  simp only [List.getElem?_cons_zero, List.getElem?_cons_succ] at q0 q1 q2 q3 q4
  clear hnb hform hps hfits hlen hrows hin HK1 htl
  go_wp2_with fail
  refine HI.out.mono ?_
  rintro e w2 ⟨rfl, rfl⟩
  go_wp2_with fail
  refine HCP.out.mono ?_
  rintro e w3 ⟨fv, iv, mv, sv, zv, us, rfl, hout, hb3⟩
  have HB3 := Lib.hid (HB1.out.trans (hb3.mono HB1.out.size))
  have HO := Lib.hid (hout.low HB1.out.size)
  clear hout hb3 HCP HI q0 q1 q2 q3 q4
  obtain ⟨Af, cf, ef, _, _⟩ := owns_slice HO.out.f
  obtain ⟨Ai, ci, ei, _, _⟩ := owns_slice HO.out.i
  obtain ⟨Am, cm, em, _, _⟩ := owns_slice HO.out.m
  obtain ⟨As, cs, es, _, _⟩ := owns_slice HO.out.s
  obtain ⟨Az, cz, ez, _, _⟩ := owns_slice HO.out.z
  subst ef ei em es ez
  have HBE := Lib.hid (ref13_Begin scx)
  go_wp2_with fail
  refine (HBE.out _).mono ?_
  rintro e w4 ⟨rfl, rfl⟩
  have hbx1 := Below.refl w3.heap.size w3
  have HS := Lib.hid (show StAt w _ ((w3.alloc (.cells #[.slice Af d.fields.length cf, .slice Ai d.infos.length ci, .slice Am d.marks.length cm, .slice As d.states.length cs, .slice Az d.frozen.length cz] TRW3)).alloc (.cells #[.int .i64 scx, .int .i64 1, .int .i64 0] THL)) w3.heap.size (w3.heap.size + 1) d _ _ _ _ _ us scx ⟨1, 0⟩ from
    ⟨(HB3.out.alloc HB3.out.size _).alloc (by simp; have := HB3.out.size; omega) _, HB3.out.size, by have := HB3.out.size; omega, (Blk.new w3 _ _).alloc _, HO.out.below (((Below.refl w3.heap.size w3).alloc (Nat.le_refl _) _).alloc (by simp) _), by have := Blk.new (w3.alloc (.cells #[.slice Af d.fields.length cf, .slice Ai d.infos.length ci, .slice Am d.marks.length cm, .slice As d.states.length cs, .slice Az d.frozen.length cz] TRW3)) THL (hcells scx ⟨1, 0⟩); rw [World.size_alloc] at this; exact this, Fr.refl _ _⟩)
  have HKA := Lib.hid (show KAt w w3.heap.size (w3.heap.size + 1) p scx _ _ _ _ _ us (helpH d p scx).2.1 [] (helpH d p scx).2.1 (.slice none 0 0) _ from ⟨d, ⟨1, 0⟩, HS.out, HOK.out, HRS.out, rfl, World.ownsRow_nil _ _ _ _, fun k hk => by cases hk⟩)
  clear HB3 HO HBE hbx1 HS HOK HRS HV
  go_wp2
  generalize w3.heap.size = bw at *
  have HTL := Lib.hid (show (helpH d p scx).2.1.length ≤ 100000 from by have h := help_len d p scx; have := HXL.out; omega)
  generalize (helpH d p scx).2.1 = tot at *
  go_loopw [11] (fun v wr => ∃ acc ks, KAt w bw (bw + 1) p scx (.slice Af d.fields.length cf) (.slice Ai d.infos.length ci) (.slice Am d.marks.length cm) (.slice As d.states.length cs) (.slice Az d.frozen.length cz) us tot acc ks v wr) (fun v _ => tot.length - lenV v)
  case atStart => exact ⟨[], tot, HKA.out⟩
  case round =>
    clear HKA
    obtain ⟨acc, ks, d', s, hS, hOK, hR, ht, ho, hap⟩ := hrel
    have q0 := pw_cell_below hS.below HC0.out
    have q1 := pw_cell_below hS.below HC1.out
    have q2 := pw_cell_below hS.below HC2.out
    have q3 := pw_cell_below hS.below HC3.out
    have q4 := pw_cell_below hS.below HC4.out
    have q5 := pw_cell_below hS.below HC5.out
    have q6 := pw_cell_below hS.below HC6.out
    have HST := Lib.hid (ref13_Step w wr bw (bw + 1) d' ⟨p, B0, k0, B1, k1, B2, k2⟩ _ _ _ _ _ us scx s HXR.out hS hOK)
    have HS := Lib.hid hS
    have HO := Lib.hid ho
    have HAP := Lib.hid hap
    have HT := Lib.hid ht
    have hOK2 := Lib.hid (stepH_ok hOK)
    have HRI := Lib.hid (rest_inv hR)
    obtain ⟨Aa, ca, ea, _, _⟩ := owns_slice ho
    subst ea
    try simp only at q0 q1 q2 q3 q4 q5 q6
    subst hA
    clear hS hOK hR ht ho hap
    go_wp2_with fail
    refine HST.out.mono ?_
    rintro e w5 ⟨rfl, hS5⟩
    have HS5 := Lib.hid hS5
    generalize stepH d' s p scx = st at *
    obtain ⟨k, dn, an, s', d''⟩ := st
    have hfr := hS5.fr
    have HO5 := Lib.hid (owns_fr HO.out hfr (fun q hq hx => by
      rcases hx with hx | rfl
      · exact HAP.out q hq hx
      · obtain ⟨c1, hc1⟩ := owns_typed HO.out _ hq
        exact absurd (hc1.inj HS.out.hlp).1 (by decide)))
    have hB5 := hS5.below
    have HB5 := Lib.hid hB5
    have hal : acc.length < tot.length := by
      rw [HT.out, List.length_append]
      rcases HRI.out with ⟨_, h⟩ | ⟨_, ks', h, _⟩ <;> rw [h] <;> simp
    have hbig := HTL.out
    clear hS5 hfr hB5 HST HO HS q0 q1 q2 q3 q4 q5 q6
    replace HS5 := Lib.hid (show StAt w wr w5 bw (bw + 1) d'' _ _ _ _ _ us scx s' from HS5.out)
    replace hOK2 := Lib.hid (show dn = false → StOk d'' p scx s' from hOK2.out)
    replace HRI := Lib.hid (show (dn = true ∧ ks = [k]) ∨ (dn = false ∧ ∃ ks', ks = k :: ks' ∧ Rest p scx d'' s' ks') from HRI.out)
    go_wp2_with (at_builtin; refine print_append_cells w.heap.size rfl _ _ 23 TII (.int .i64 0) 1 8 rfl Try.underlying23 tinfo_int rfl (by decide) (by decide) (.slice Aa acc.length ca) acc.length _ [.int .i64 k] rfl rfl rfl (by simp [Value.oneCell']) HO5.out HB5.out HB5.out.size (by omega) ?_)
    intro v1 w6 hown hb6 hg6 hat6
    have hB6 := HB5.out.trans (Below.refl _ _) 
    rcases HRI.out with ⟨rfl, hks⟩ | ⟨rfl, ks', hks, hR'⟩
    · have HF := Lib.hid (show KinPost w (0, tot) (.returned (.tuple #[v1, .int .i64 0])) w6 from ⟨v1, rfl, by
        rw [HT.out, hks]; simpa using hown, hb6⟩)
      obtain ⟨A6, c6, e6, _, _⟩ := owns_slice hown
      subst e6
      clear hown hb6 hg6 hat6 hB6 HS5 hOK2 HRI HT hks HO5 HB5 HAP
      go_wp2
      exact HQ'.out _ _ HF.out
    · have hfr6 : Fr w5 w6 (fun q => some q = (Value.slice Aa acc.length ca).ownBlock) := Fr.of_grown hg6
      have HN := Lib.hid (show KAt w bw (bw + 1) p scx (.slice Af d.fields.length cf) (.slice Ai d.infos.length ci) (.slice Am d.marks.length cm) (.slice As d.states.length cs) (.slice Az d.frozen.length cz) us tot (acc ++ [k]) ks' v1 w6 from by
        have hne : ∀ {q T : Nat} {xs : List Value}, Blk w5 q T xs → T ≠ TII → ¬ some q = (Value.slice Aa acc.length ca).ownBlock := fun hb hT e => by
          obtain ⟨c1, hc1⟩ := owns_typed HO5.out _ e.symm
          exact hT (hb.inj hc1).1
        have S5 := HS5.out
        have hO6 := S5.out.fr hfr6 (fun q hq e => HAP.out q e.symm hq)
        refine ⟨d'', s', ⟨hb6, S5.lw, S5.lh, hfr6.blk S5.box (hne S5.box (by decide)), hO6, hfr6.blk S5.hlp (hne S5.hlp (by decide)), Fr.refl _ _⟩, hOK2.out rfl, hR', by rw [HT.out, hks]; simp, by simpa using hown, fun q hq hx => ?_⟩
        rcases hat6 with hat | ⟨b, hb, hle⟩
        · exact HAP.out q (hat ▸ hq) hx
        · rw [hb] at hq; cases hq
          have := (S5.out.foot hx).2.1
          omega)
      have HM := Lib.hid (show tot.length - lenV v1 < tot.length - acc.length by
        obtain ⟨A6, c6, e6, _, _⟩ := owns_slice hown
        rw [e6]; show tot.length - (acc.length + 1) < _; omega)
      obtain ⟨A6, c6, e6, _, _⟩ := owns_slice hown
      subst e6
      clear hown hb6 hg6 hat6 hB6 HS5 hOK2 HRI HT hks HO5 HB5 hR' hfr6 HAP
      go_wp2
      go_roundw
      case rel => exact ⟨_, _, HN.out⟩
      case measure => exact HM.out
end Go.Proofs.Ytphhdmopfmelbaa

/- cell: NewTape, Tape.Kinds. -/
namespace Go.Proofs.Ytphhdmopfmelbaa
open Go.RowKit Go.Proofs.YtphhdmopfmelbaaW.PrintWords
set_option linter.unusedVariables false
set_option linter.unusedSimpArgs false

set_option maxHeartbeats 400000 in
theorem tape_new (w : World) : Calls Try.prog 24 #[] w fun e w' => ∃ t, e = .returned (.pointer (some ⟨t, 0, none⟩)) ∧ TapeI w' w.heap.size t [] ∧ Below w.heap.size w w' := by
  have hb := Blk.new w 102 [.slice none 0 0]
  have H : TapeI (w.alloc (.cells #[.slice none 0 0] 102)) w.heap.size w.heap.size [] ∧ Below w.heap.size w (w.alloc (.cells #[.slice none 0 0] 102)) :=
    ⟨⟨.slice none 0 0, Nat.le_refl _, hb, World.ownsRow_nil _ _ _ _, by simp [Value.ownBlock]⟩, (Below.refl _ _).alloc (Nat.le_refl _) _⟩
  have H' := Lib.hid H
  clear hb H
  go_enter Try.func24, Try.ntmps24
  go_wp2
  go_ret
  exact ⟨_, rfl, H'.out⟩
set_option maxHeartbeats 400000 in
theorem tape_kinds (w : World) (B t : Nat) (ks : List Int) (h : TapeI w B t ks) (hl : ks.length ≤ 1000000000) :
    Calls Try.prog 26 #[.pointer (some ⟨t, 0, none⟩)] w fun e w' => ∃ v, e = .returned v ∧ w'.ownsRow w.heap.size TII 1 v ks.length (ks.map (Value.int .i64)) ∧ Below w.heap.size w w' := by
  obtain ⟨v, hB, hb, ho, hne⟩ := h
  obtain ⟨A, c, hv, hr, _⟩ := owns_slice ho
  have hnil : A = none → ks.length = 0 ∧ c = 0 := fun e => by
    subst e
    rcases ho.2 with ⟨h1, h2⟩ | ⟨g, cap, cur, h1, _⟩
    · rw [hv] at h1
      exact ⟨h2, (Value.slice.inj h1).2.2⟩
    · rw [hv] at h1
      exact absurd (Value.slice.inj h1).1 (by simp)
  have hc : w.cell? ⟨t, 0, none⟩ = some (.slice A ks.length c) := by rw [hb.cell 0, hv]; rfl
  have HC := Lib.hid (clone_any_int A ks.length c _ w hnil hr (by intro u hu; obtain ⟨n, _, rfl⟩ := List.mem_map.1 hu; rfl) (by omega))
  refine calls_hide fun Q HQ => ?_
  have HQ' := Lib.hid HQ
  clear HQ ho hv hr hnil hb
  go_enter Try.func26, Try.ntmps26
  go_wp2_with fail
  refine HC.out.mono ?_
  rintro e w1 ⟨A', c', rfl, h1, h2, h3, h4⟩
  have H1 := Lib.hid h1
  have H4 := Lib.hid h4
  clear h1 h2 h3 h4 HC
  go_wp2
  exact HQ'.out _ _ ⟨_, rfl, H1.out, H4.out⟩

end Go.Proofs.Ytphhdmopfmelbaa

/- help: Kinds. -/
namespace Go.Proofs.Ytphhdmopfmelbaa
open Go.RowKit Go.Proofs.YtphhdmopfmelbaaW.PrintWords
set_option linter.unusedVariables false
set_option linter.unusedSimpArgs false

/-- What build leaves, as Help wants it. -/
theorem LiveHAt.helpAt {d : WD} {ps : List PlanD} {B m : Nat} {w : World} {R : Nat → Option RecO} {X : Nat → Option ScxO} {rs fs xs : List Nat} {v1 v2 v3 : Value} (h : LiveHAt d ps B m w R X rs fs xs v1 v2 v3) (hform : d.Formed) {j : Nat} {p : PlanD} (hj : j < d.states.length) (hp : ps[j]? = some p) (hf : p.Fits d)
    {B' : Nat} {g : Option Nat} (hg : GAtI w B' g []) (hB' : B' ≤ w.heap.size) :
    ∃ b o vs is fb bv bi bf cv ci cf rv ri rf, xs[j]? = some b ∧ HAtint B' g b fb vs is p.fin w bv bi bf cv ci cf rv ri rf w [] R X o ∧ (helpR R X b o vs is p.fin).2.1 = (helpH d p j).2.1 ∧ vs.length = p.V.length ∧ ∀ k, HelpSint vs fb b k → B ≤ k := by
  have hb : xs[j]? = some (xs[j]'(by have := h.hx; omega)) := List.getElem?_eq_getElem _
  obtain ⟨o, ho, hm⟩ := h.pl.at_ j _ p hb hp
  obtain ⟨o', ho', hst⟩ := h.stage.x j _ hb
  rw [ho] at ho'; cases ho'
  have hV : ∀ n ∈ p.V, 0 ≤ n ∧ n < rs.length := fun n hn => by rw [h.hr]; exact hf.hV n hn
  have hne : ∀ {u : Value} {e : Nat} {us : List Value}, w.ownsRow B e 1 u p.V.length us → ¬ u = .slice none 0 0 := fun ho e => by
    rcases ho.2 with ⟨_, h0⟩ | ⟨g, cap, cur, hv, _⟩
    · have := hf.v0; omega
    · rw [e] at hv; simp at hv
  obtain ⟨bv, cv, rv, ev, _, _, hbv⟩ := owns_blk hm.ov (hne hm.ov)
  obtain ⟨bi, ci, ri, ei, _, _, hbi⟩ := owns_blk hm.oi (hne hm.oi)
  obtain ⟨bf, cf, rf, ef, _, _, hbf⟩ := owns_blk hm.ob (hne hm.ob)
  have hJ : PJf ps fs xs j = (p.V.zip p.infos).map fun x => ip fs xs x.1 x.2 := by unfold PJf; rw [hp]
  have hmem : ∀ r ∈ p.V.map (fun n => rs.getD n.toNat 0), r ∈ rs := fun r hr => by
    obtain ⟨n, hn, rfl⟩ := List.mem_map.1 hr
    have := hV n hn
    exact getD_mem (by omega) 0
  have hR : ∀ r ∈ p.V.map (fun n => rs.getD n.toNat 0), (R r).isSome := fun r hr => by
    obtain ⟨i, hi⟩ := List.getElem?_of_mem (hmem r hr)
    obtain ⟨fb, h1, _⟩ := h.stage.r i r hi
    simp [h1]
  have hat : p.at_.toNat < p.V.length := by have := hf.a.1; have := hf.a.2; omega
  have hvr : (p.V.map fun n => rs.getD n.toNat 0).getD p.at_.toNat 0 = rs.getD (p.V.getD p.at_.toNat 0).toNat 0 := by
    simp [List.getD_eq_getElem?_getD, List.getElem?_eq_getElem hat]
  have hva := hV _ (getD_mem hat 0)
  have hrk : rs[(p.V.getD p.at_.toNat 0).toNat]? = some (rs.getD (p.V.getD p.at_.toNat 0).toNat 0) := by
    simp [List.getD_eq_getElem?_getD, List.getElem?_eq_getElem (show (p.V[p.at_.toNat]).toNat < rs.length by have := hV _ (List.getElem_mem hat); omega), List.getElem?_eq_getElem hat]
  obtain ⟨fb, hfb, hfbl⟩ := h.stage.r _ _ hrk
  refine ⟨_, o, p.V.map (fun n => rs.getD n.toNat 0), (p.V.zip p.infos).map fun x => ip fs xs x.1 x.2, fb, bv, bi, bf, cv, ci, cf, rv, ri, rf, hb, ?_, ?_, by simp, fun k hk => ?_⟩
  · refine ⟨hB', hg, Step.refl hg _, h.stage.rep, ⟨by simpa using ev, by simpa using ei, by simpa using ef, ?_, by rw [← hJ]; exact hbi, hbf, by simp [hf.v1], by simp [hf.v2]⟩, ho, hR, fun i hi => ?_, ?_, ?_, by rw [hm.e1]; exact hf.a.1, by rw [hm.e1]; simpa using hf.a.2, by rw [hm.e2]; exact hf.f.1, ?_, ?_⟩
    · have : (p.V.map fun n => pv rs[n.toNat]?) = (p.V.map fun n => rs.getD n.toNat 0).map fun b => pv (some b) := by
        rw [List.map_map]
        refine List.map_congr_left fun n hn => ?_
        have := hV n hn
        simp [List.getD_eq_getElem?_getD, List.getElem?_eq_getElem (show n.toNat < rs.length by omega)]
      rw [← this]; exact hbv
    · obtain ⟨x, hx, rfl⟩ := List.mem_map.1 hi
      unfold ip
      split
      · exact h.stage.okF _
      · exact h.stage.okX _
    · rw [hm.e3]; exact h.stage.okR _
    · rw [hm.e4]; exact h.stage.okR _
    · rw [hm.e1, hm.e2, hvr, rg_of hfb]
      simpa using hf.f.2
    · rw [hm.e1, hvr, rg_of hfb]
  · refine help_sim h.stage.ndr h.stage.ndx h.stage.len R X d p j _ o hb (fun i b hb => ?_) (by rw [hform.e1, h.hr]) (fun n hn => by have := hform.hI n hn; rw [h.hx]; exact this) hV (fun n hn => by have := hf.hI n hn; rw [h.hx]; exact this) hst.2
    obtain ⟨fb, h1, _⟩ := h.stage.r i b hb
    exact ⟨_, h1, rfl⟩
  · rcases hk with hk | rfl | rfl
    · exact h.stage.lo k (by simp [hmem k hk])
    · exact hfbl
    · exact h.stage.lo _ (by simp [List.mem_of_getElem? hb])
end Go.Proofs.Ytphhdmopfmelbaa

/- help: Kinds, walked. -/
namespace Go.Proofs.Ytphhdmopfmelbaa
open Go.RowKit Go.Proofs.YtphhdmopfmelbaaW.PrintWords
set_option linter.unusedVariables false
set_option linter.unusedSimpArgs false

set_option maxHeartbeats 8000000 in
set_option maxRecDepth 100000 in
theorem help_Kinds (w : World) (v : WV) (d : WD) (A : Option Addr) (c : Nat) (l : List PX) (scx : Int) (hv : v.Reads w d) (hp : PlansAt w A l) (hl : d.fields.length < 1000000000000000) (hl3 : d.states.length < 1000000000000000) (hr : ∀ r ∈ d.fields, r.length < 1000000000000000) (hl4 : l.length < 1000000000000000) (hl5 : ∀ x ∈ l, x.p.V.length < 1000000000000000) :
    Calls Try.prog 10 #[v.val d, .slice A l.length c, .int .i64 scx] w (KinPost w (kinH d (l.map PX.p) scx)) := by
  refine calls_hide fun Q HQ => ?_
  have HQ' := Lib.hid HQ
  have HV := Lib.hid hv
  have HP := Lib.hid hp
  have hbx := (Below.refl w.heap.size w).alloc (Nat.le_refl _) (.cells (v.cells d).toArray 36)
  have hbk := Blk.new w 36 (v.cells d)
  have HB := Lib.hid hbx
  have HK := Lib.hid hbk
  have HCK := Lib.hid (help_Check _ v d A c l (hv.below hbx) (hp.below hbx) hl hl3 hr hl4 hl5)
  have k0 := hbk.cell 0
  have k1 := hbk.cell 1
  have k2 := hbk.cell 2
  have k3 := hbk.cell 3
  have k4 := hbk.cell 4
  simp only [List.getElem?_cons_zero, List.getElem?_cons_succ] at k0 k1 k2 k3 k4
  clear HQ hv hp hbx hbk
  go_enter Try.func10, Try.ntmps10
  go_wp2_with fail
  refine HCK.out.mono ?_
  rintro e w1 ⟨rfl, hb1⟩
  have HB1 := Lib.hid (HB.out.trans (hb1.mono HB.out.size))
  have HK1 := Lib.hid (HK.out.below hb1 HK.out.lt)
  clear hb1 HB HK HCK k0 k1 k2 k3 k4
  by_cases hc : chkH d (l.map PX.p) = 0
  case neg =>
    have HR := Lib.hid (kin_bad (scx := scx) hc)
    rw [HR.out] at HQ'
    have hcb : (chkH d (l.map PX.p) != 0) = true := by rw [bne_iff_ne]; exact hc
    generalize chkH d (l.map PX.p) = ck at *
    clear HR hc
    go_wp2
    exact HQ'.out _ _ ⟨_, rfl, World.ownsRow_nil _ _ _ _, HB1.out⟩
  obtain ⟨hnb, hform, hps, hfits⟩ := chkH_zero hc
  by_cases hin : inH scx 0 l.length
  case neg =>
    have HR := Lib.hid (kin_out (scx := scx) hc (by rw [List.length_map]; exact hin))
    rw [HR.out] at HQ'
    have HI := Lib.hid (help_within_len scx 0 l.length hl4 false (inB_false.2 hin) w1)
    clear HR hnb hform hps hfits hin
    rw [hc]
    clear hc
    go_wp2_with fail
    refine HI.out.mono ?_
    rintro e w2 ⟨rfl, rfl⟩
    go_wp2
    exact HQ'.out _ _ ⟨_, rfl, World.ownsRow_nil _ _ _ _, HB1.out⟩
  have hin0 : 0 ≤ scx := hin.1
  have hin1 : scx < l.length := hin.2
  have hjn : scx.toNat < l.length := by omega
  have HI := Lib.hid (help_within_len scx 0 l.length hl4 true (inB_true.2 hin) w1)
  have HR := Lib.hid (kin_good (scx := scx) hc (by rw [List.length_map]; exact hin))
  rw [hc]
  have HXF := Lib.hid (hfits _ (List.mem_map_of_mem (List.getElem_mem hjn)))
  have HXL := Lib.hid (show (l[scx.toNat]).p.V.length ≤ 64 from Nat.le_of_not_lt fun h => hnb (.inr (.inr (.inr ⟨_, List.mem_map_of_mem (List.getElem_mem hjn), h⟩))))
  have HGD := Lib.hid (show (l.map PX.p).getD scx.toNat default = (l[scx.toNat]).p by simp [List.getD_eq_getElem?_getD, List.getElem?_eq_getElem hjn])
  have HPS := Lib.hid (show (l.map PX.p)[scx.toNat]? = some (l[scx.toNat]).p by simp [List.getElem?_eq_getElem hjn])
  rw [HR.out, HGD.out] at HQ'
  clear HR HGD hc
  generalize (l[scx.toNat]).p = p at *
  have hll : l.length = d.states.length := by rw [← hps, List.length_map]
  have HLL := Lib.hid hll
  have HFM := Lib.hid hform
  have HNB := Lib.hid hnb
  have HFT := Lib.hid (show ∀ x ∈ l, x.p.Fits d from fun x hx => hfits _ (List.mem_map_of_mem hx))
  have q0 := HK1.out.cell 0
  have q1 := HK1.out.cell 1
  have q2 := HK1.out.cell 2
  have q3 := HK1.out.cell 3
  have q4 := HK1.out.cell 4
  simp only [List.getElem?_cons_zero, List.getElem?_cons_succ] at q0 q1 q2 q3 q4
  have HTN := Lib.hid (tape_new w1)
  clear hnb hform hps hfits hin hll q0 q1 q2 q3 q4
  go_wp2_with fail
  refine HI.out.mono ?_
  rintro e w2 ⟨rfl, rfl⟩
  go_wp2_with fail
  refine HTN.out.mono ?_
  rintro e w3 ⟨t, rfl, htp, hb3⟩
  have HTP := Lib.hid htp
  have HB3 := Lib.hid (HB1.out.trans (hb3.mono HB1.out.size))
  have HK3 := Lib.hid (HK1.out.below hb3 HK1.out.lt)
  have HS3 := Lib.hid hb3.size
  have q0 := HK3.out.cell 0
  have q1 := HK3.out.cell 1
  have q2 := HK3.out.cell 2
  have q3 := HK3.out.cell 3
  have q4 := HK3.out.cell 4
  simp only [List.getElem?_cons_zero, List.getElem?_cons_succ] at q0 q1 q2 q3 q4
  have HBD := Lib.hid (help_build w3 v d A c l (HV.out.below HB3.out) (HP.out.below HB3.out) HFM.out HNB.out HLL.out HFT.out)
  clear htp hb3 HTN HI HK1
  go_wp2_with fail
  refine HBD.out.mono ?_
  rintro e w4 ⟨m, rfl, hb4, R, X, rs, fs, xs, v1, v2, v3, hL⟩
  have HB4 := Lib.hid (HB3.out.trans (hb4.mono HB3.out.size))
  have hgt : GAtI w4 w2.heap.size (some t) [] := fun t' e => by
    cases e
    exact (HTP.out.fr (S := fun _ => False) (Fr.of_below0 hb4) (fun _ _ => id)).1
  have hsz : w2.heap.size ≤ w4.heap.size := Nat.le_trans HS3.out hb4.size
  have hjs : scx.toNat < d.states.length := by rw [← HLL.out]; exact hjn
  obtain ⟨b, o, vs, is, fb, bv, bi, bf, cv, ci, cf, rv, ri, rf, hxb, hH, hks, hvl, hSB⟩ := hL.helpAt HFM.out hjs HPS.out HXF.out hgt hsz
  obtain ⟨x3, k3, hv3, hcx⟩ := owns_at hL.made.o3 (j := scx.toNat) (by rw [hL.hx]; exact hjs)
  rw [hxb] at hcx
  have hcx1 : _ = some (Value.pointer (some ⟨b, 0, none⟩)) := hcx
  have hm2 : w4.cell? ⟨m, 2, none⟩ = some v3 := by rw [hL.made.blk.cell]; rfl
  rw [hv3] at hm2
  have hxl : scx < xs.length := by rw [hL.hx, ← HLL.out]; exact hin1
  have HH := Lib.hid (help_int _ _ _ _ _ _ _ _ _ _ _ _ _ _ _ _ _ _ _ _ _ hH (by simp) (by rw [hvl]; have := HXL.out; omega))
  have HKS := Lib.hid hks
  have HGT := Lib.hid hgt
  have HSZ := Lib.hid hsz
  have HSB := Lib.hid (fun k hk => Nat.le_trans HS3.out (hSB k hk))
  have HKL := Lib.hid (show (helpH d p scx.toNat).2.1.length ≤ 100000 from by have h := help_len d p scx.toNat; have := HXL.out; omega)
  have HSC := Lib.hid (show ((scx.toNat : Nat) : Int) = scx by omega)
  clear hb4 hL hgt hsz hjs hxb hH hks hvl hSB hcx hv3 HBD q0 q1 q2 q3 q4 HTP
  go_wp2_with fail
  refine HH.out.mono ?_
  rintro e w5 ⟨rfl, hst, hrep⟩
  rw [HKS.out, List.nil_append] at hst
  have HTK := Lib.hid (tape_kinds w5 _ t _ (hst.gate t rfl) (by have := HKL.out; omega))
  have HB5 := Lib.hid (HB4.out.trans ((hst.below HGT.out HSZ.out HSB.out).mono HB1.out.size))
  clear hst hrep HH hcx1 hm2 HKS
  go_wp2_with fail
  refine HTK.out.mono ?_
  rintro e w6 ⟨v6, rfl, hown, hb6⟩
  rw [HSC.out] at hown
  have HF := Lib.hid (show KinPost w (0, (helpH d p scx).2.1) (.returned (.tuple #[v6, .int .i64 0])) w6 from ⟨v6, rfl, own_weaken hown HB5.out.size, HB5.out.trans (hb6.mono HB5.out.size)⟩)
  obtain ⟨A6, c6, e6, _, _⟩ := owns_slice hown
  subst e6
  clear hown hb6 HTK
  go_wp2
  exact HQ'.out _ _ HF.out
end Go.Proofs.Ytphhdmopfmelbaa

/- larchlaw13: toWorld, toPlans, plain. -/
namespace Go.Proofs.Ytphhdmopfmelbaa
open Go.RowKit Go.Proofs.YtphhdmopfmelbaaW.PrintWords
set_option linter.unusedVariables false
set_option linter.unusedSimpArgs false

abbrev zeroP : Value := .agg #[.slice none 0 0, .slice none 0 0, .slice none 0 0, .int .i64 0, .int .i64 0, .int .i64 0, .int .i64 0]
theorem pinfo_plan : (Try.prog.info? TPLN).map (fun i => (i.zero, i.size, i.bytes)) = some (some zeroP, 7, 104) := by kernel_rfl
theorem wsizeD : (Try.prog.info? TWD).map (·.size) = some 5 := by kernel_rfl
theorem law13_plain (e n : Int) (w : World) : Calls Try.prog 13 #[.int .i64 e, .int .i64 n] w fun en w' => en = .returned (.bool (decide (e = n))) ∧ w' = w := by
  by_cases h : e = n
  · subst h
    rw [decide_eq_true rfl]
    go_enter Try.func13, Try.ntmps13
    go_wp2
    go_ret
    exact ⟨rfl, rfl⟩
  · rw [decide_eq_false h]
    have hb : (e == n) = false := by rw [beq_eq_false_iff_ne]; exact h
    go_enter Try.func13, Try.ntmps13
    go_wp2
    go_ret
    exact ⟨rfl, rfl⟩
set_option maxHeartbeats 1000000 in
theorem law13_toWorld (w : World) (v : WV) (d : WD) : Calls Try.prog 11 #[v.val d] w fun e w' => e = .returned (v.val d) ∧ Below w.heap.size w w' := by
  refine calls_hide fun Q HQ => ?_
  have HQ' := Lib.hid HQ
  have hba := ((Below.refl w.heap.size w).alloc (Nat.le_refl _) (.cells (v.cells d).toArray TRW3)).alloc (by simp) (.cells #[.slice none 0 0, .slice none 0 0, .slice none 0 0, .slice none 0 0, .slice none 0 0] TWD)
  have hb2 := Blk.new (w.alloc (.cells (v.cells d).toArray TRW3)) TWD zeroW
  rw [World.size_alloc] at hb2
  have HBA := Lib.hid hba
  have hr0 := hb2.cell 0
  have hr1 := hb2.cell 1
  have hr2 := hb2.cell 2
  have hr3 := hb2.cell 3
  have hr4 := hb2.cell 4
  have hf0 := hb2.free ⟨w.heap.size + 1, 0, none⟩ rfl
  have hf1 := hb2.free ⟨w.heap.size + 1, 1, none⟩ rfl
  have hf2 := hb2.free ⟨w.heap.size + 1, 2, none⟩ rfl
  have hf3 := hb2.free ⟨w.heap.size + 1, 3, none⟩ rfl
  have hf4 := hb2.free ⟨w.heap.size + 1, 4, none⟩ rfl
  have HB2 := Lib.hid hb2
  clear HQ hba hb2 hr0 hr1 hr2 hr3 hr4 hf0 hf1 hf2 hf3 hf4
  go_enter Try.func11, Try.ntmps11
  go_wp2
  (try simp only [Exit.inBlock, Exit.then])
  refine bodyPost_ret (results_cell_row rfl _ _ (w.heap.size + 1) TWD _ (0, 0) _ rfl (show Blk _ (w.heap.size + 1) TWD (v.cells d) from by
    have h := Blk.new (w.alloc (.cells (v.cells d).toArray TRW3)) TWD (v.cells d)
    rw [World.size_alloc] at h
    exact h) Try.underlying36 rfl wsizeD) rfl ?_
  exact HQ'.out _ _ ⟨rfl, ((Below.refl w.heap.size w).alloc (Nat.le_refl _) _).alloc (by simp) _⟩
set_option maxHeartbeats 2000000 in
set_option maxRecDepth 100000 in
theorem law13_toPlans (w : World) (A : Option Addr) (c : Nat) (l : List PX) (hp : PlansAt w A l) (hl : l.length ≤ 1353245080300) :
    Calls Try.prog 12 #[.slice A l.length c] w fun e w' => ∃ A' c', e = .returned (.slice A' l.length c') ∧ PlansAt w' A' l ∧ Below w.heap.size w w' := by
  refine calls_hide fun Q HQ => ?_
  have HQ' := Lib.hid HQ
  have HP := Lib.hid hp
  clear HQ hp
  go_enter Try.func12, Try.ntmps12
  go_wp2
  go_loopw [8, 3] (fun k v wr => ∃ j : Nat, j ≤ l.length ∧ k = .int .i64 j ∧ Below w.heap.size w wr ∧ wr.ownsRow w.heap.size TPLN 7 v j ((l.take j).flatMap PX.cells)) (fun k _ _ => l.length - (intOf k).toNat)
  case atStart => exact ⟨0, Nat.zero_le _, rfl, Below.refl _ _, World.ownsRow_nil _ _ _ _⟩
  case round =>
    obtain ⟨j, hj, rfl, hb, ho⟩ := hrel
    have HB := Lib.hid hb
    have HO := Lib.hid ho
    clear hb ho
    by_cases hlt : j < l.length
    · obtain ⟨pb, po, hA, p0, p1, p2, p3, p4, p5, p6⟩ := HP.out.at_ hlt
      have q0 := pw_cell_below HB.out p0
      have q1 := pw_cell_below HB.out p1
      have q2 := pw_cell_below HB.out p2
      have q3 := pw_cell_below HB.out p3
      have q4 := pw_cell_below HB.out p4
      have q5 := pw_cell_below HB.out p5
      have q6 := pw_cell_below HB.out p6
      have HT := Lib.hid (take_one'' l j hlt)
      clear p0 p1 p2 p3 p4 p5 p6
      generalize l[j] = x at *
      obtain ⟨p, B0, k0, B1, k1, B2, k2⟩ := x
      simp only at q0 q1 q2 q3 q4 q5 q6
      subst hA
      obtain ⟨Av, cv, ev⟩ := own_slice HO.out
      subst ev
      have HOb := Lib.hid (HO.out.alloc (.cells #[.slice B0 p.V.length k0, .slice B1 p.infos.length k1, .slice B2 p.fin.length k2, .int .i64 p.at_, .int .i64 p.fld, .int .i64 p.old, .int .i64 p.new] 78))
      have HBb := Lib.hid (HB.out.alloc HB.out.size (.cells #[.slice B0 p.V.length k0, .slice B1 p.infos.length k1, .slice B2 p.fin.length k2, .int .i64 p.at_, .int .i64 p.fld, .int .i64 p.old, .int .i64 p.new] 78))
      go_wp2_with (at_builtin; refine print_append_cells (W := wr.alloc (.cells #[.slice B0 p.V.length k0, .slice B1 p.infos.length k1, .slice B2 p.fin.length k2, .int .i64 p.at_, .int .i64 p.fld, .int .i64 p.old, .int .i64 p.new] 78)) w.heap.size rfl _ _ 38 TPLN zeroP 7 104 rfl Try.underlying38 pinfo_plan rfl (by decide) (by decide) (.slice Av j cv) j _ [.slice B0 p.V.length k0, .slice B1 p.infos.length k1, .slice B2 p.fin.length k2, .int .i64 p.at_, .int .i64 p.fld, .int .i64 p.old, .int .i64 p.new] rfl (by rw [World.size_alloc]; rfl) rfl (by intro u hu; simp only [List.mem_cons, List.not_mem_nil, or_false] at hu; rcases hu with rfl | rfl | rfl | rfl | rfl | rfl | rfl <;> rfl) HOb.out HBb.out HBb.out.size (by omega) ?_)
      intro v1 w1 hown hb1 hg1 hat1
      have HN := Lib.hid (show w1.ownsRow w.heap.size TPLN 7 v1 (j + 1) ((l.take (j + 1)).flatMap PX.cells) from by
        rw [← HT.out, List.flatMap_append]; simpa using hown)
      have HB1 := Lib.hid hb1
      clear hown hb1 hg1 hat1 HOb HBb HO HB HT q0 q1 q2 q3 q4 q5 q6
      go_wp2
      go_roundw
      case rel => exact ⟨j + 1, by omega, by go_num, HB1.out, HN.out⟩
      case measure => simp [intOf]; omega
    · have hje : j = l.length := by omega
      subst hje
      have hown := HO.out
      rw [List.take_length] at hown
      obtain ⟨A', c', e, _, hat⟩ := own_plans hown (fun x hx => (HP.out.reads x hx).below HB.out)
      have HAT := Lib.hid hat
      subst e
      clear hown hat HO
      go_wp2
      exact HQ'.out _ _ ⟨_, _, rfl, HAT.out, HB.out⟩
end Go.Proofs.Ytphhdmopfmelbaa
