/- Joined texts: HelpO Law13A Law13B Law13C Case13 MadeS. -/
import Derived.Test.YtphhdmopfmelbaaGreatM3
import Derived.Test.YtphhdmopfmelbaaGreatM9
import Derived.Deep.OwnRows
import Derived.Test.YtphhdmopfmelbaaGreatRows
import Derived.WalkKit
import Derived.ProofKit
import Derived.OpenShut
import Derived.ShutString
import Derived.ChangeOld
import Derived.Below
import Derived.SizedLaws
import Derived.Deep.Slices
import Derived.Deep.Grids

/- help: Kinds, walked. -/
namespace Go.Proofs.YtphhdmopfmelbaaGreat
open Go.RowKit Go.Proofs.YtphhdmopfmelbaaGreatW.PrintWords
set_option linter.unusedVariables false
set_option linter.unusedSimpArgs false

set_option maxHeartbeats 8000000 in
set_option maxRecDepth 100000 in
theorem help_Kinds (w : World) (v : WV) (d : WD) (A : Option Addr) (c : Nat) (l : List PX) (scx : Int) (hv : v.Reads w d) (hp : PlansAt w A l) (hl : d.fields.length < 1000000000000000) (hl3 : d.states.length < 1000000000000000) (hr : ∀ r ∈ d.fields, r.length < 1000000000000000) (hl4 : l.length < 1000000000000000) (hl5 : ∀ x ∈ l, x.p.V.length < 1000000000000000) :
    Calls Tryz.prog 22 #[v.val d, .slice A l.length c, .int .i64 scx] w (KinPost w (kinH d (l.map PX.p) scx)) := by
  refine calls_hide fun Q HQ => ?_
  have HQ' := Lib.hid HQ
  have HV := Lib.hid hv
  have HP := Lib.hid hp
  have hbx := (Below.refl w.heap.size w).alloc (Nat.le_refl _) (.cells (v.cells d).toArray 60)
  have hbk := Blk.new w 60 (v.cells d)
  have HB := Lib.hid hbx
  have HK := Lib.hid hbk
  have HCK := Lib.hid (help_Check _ v d A c l (hv.below hbx) (hp.below hbx) hl hl3 hr hl4 hl5)
  have k0 := hbk.cell 0
  have k1 := hbk.cell 1
  have k2 := hbk.cell 2
  have k3 := hbk.cell 3
  have k4 := hbk.cell 4
  simp only [List.getElem?_cons_zero, List.getElem?_cons_succ] at k0 k1 k2 k3 k4
  clear HQ hv hp hbx hbk
  go_enter Tryz.func22, Tryz.ntmps22
  go_wp2_with fail
  refine HCK.out.mono ?_
  rintro e w1 ⟨rfl, hb1⟩
  have HB1 := Lib.hid (HB.out.trans (hb1.mono HB.out.size))
  have HK1 := Lib.hid (HK.out.below hb1 HK.out.lt)
  clear hb1 HB HK HCK k0 k1 k2 k3 k4
  by_cases hc : chkH d (l.map PX.p) = 0
  case neg =>
    have HR := Lib.hid (kin_bad (scx := scx) hc)
    rw [HR.out] at HQ'
    have hcb : (chkH d (l.map PX.p) != 0) = true := by rw [bne_iff_ne]; exact hc
    generalize chkH d (l.map PX.p) = ck at *
    clear HR hc
    go_wp2
    exact HQ'.out _ _ ⟨_, rfl, World.ownsRow_nil _ _ _ _, HB1.out⟩
  obtain ⟨hnb, hform, hps, hfits⟩ := chkH_zero hc
  by_cases hin : inH scx 0 l.length
  case neg =>
    have HR := Lib.hid (kin_out (scx := scx) hc (by rw [List.length_map]; exact hin))
    rw [HR.out] at HQ'
    have HI := Lib.hid (help_within_len scx 0 l.length hl4 false (inB_false.2 hin) w1)
    clear HR hnb hform hps hfits hin
    rw [hc]
    clear hc
    go_wp2_with fail
    refine HI.out.mono ?_
    rintro e w2 ⟨rfl, rfl⟩
    go_wp2
    exact HQ'.out _ _ ⟨_, rfl, World.ownsRow_nil _ _ _ _, HB1.out⟩
  have hin0 : 0 ≤ scx := hin.1
  have hin1 : scx < l.length := hin.2
  have hjn : scx.toNat < l.length := by omega
  have HI := Lib.hid (help_within_len scx 0 l.length hl4 true (inB_true.2 hin) w1)
  have HR := Lib.hid (kin_good (scx := scx) hc (by rw [List.length_map]; exact hin))
  rw [hc]
  have HXF := Lib.hid (hfits _ (List.mem_map_of_mem (List.getElem_mem hjn)))
  have HXL := Lib.hid (show (l[scx.toNat]).p.V.length ≤ 64 from Nat.le_of_not_lt fun h => hnb (.inr (.inr (.inr ⟨_, List.mem_map_of_mem (List.getElem_mem hjn), h⟩))))
  have HGD := Lib.hid (show (l.map PX.p).getD scx.toNat default = (l[scx.toNat]).p by simp [List.getD_eq_getElem?_getD, List.getElem?_eq_getElem hjn])
  have HPS := Lib.hid (show (l.map PX.p)[scx.toNat]? = some (l[scx.toNat]).p by simp [List.getElem?_eq_getElem hjn])
  rw [HR.out, HGD.out] at HQ'
  clear HR HGD hc
  generalize (l[scx.toNat]).p = p at *
  have hll : l.length = d.states.length := by rw [← hps, List.length_map]
  have HLL := Lib.hid hll
  have HFM := Lib.hid hform
  have HNB := Lib.hid hnb
  have HFT := Lib.hid (show ∀ x ∈ l, x.p.Fits d from fun x hx => hfits _ (List.mem_map_of_mem hx))
  have q0 := HK1.out.cell 0
  have q1 := HK1.out.cell 1
  have q2 := HK1.out.cell 2
  have q3 := HK1.out.cell 3
  have q4 := HK1.out.cell 4
  simp only [List.getElem?_cons_zero, List.getElem?_cons_succ] at q0 q1 q2 q3 q4
  have HTN := Lib.hid (tape_new w1)
  clear hnb hform hps hfits hin hll q0 q1 q2 q3 q4
  go_wp2_with fail
  refine HI.out.mono ?_
  rintro e w2 ⟨rfl, rfl⟩
  go_wp2_with fail
  refine HTN.out.mono ?_
  rintro e w3 ⟨t, rfl, htp, hb3⟩
  have HTP := Lib.hid htp
  have HB3 := Lib.hid (HB1.out.trans (hb3.mono HB1.out.size))
  have HK3 := Lib.hid (HK1.out.below hb3 HK1.out.lt)
  have HS3 := Lib.hid hb3.size
  have q0 := HK3.out.cell 0
  have q1 := HK3.out.cell 1
  have q2 := HK3.out.cell 2
  have q3 := HK3.out.cell 3
  have q4 := HK3.out.cell 4
  simp only [List.getElem?_cons_zero, List.getElem?_cons_succ] at q0 q1 q2 q3 q4
  have HBD := Lib.hid (help_build w3 v d A c l (HV.out.below HB3.out) (HP.out.below HB3.out) HFM.out HNB.out HLL.out HFT.out)
  clear htp hb3 HTN HI HK1
  go_wp2_with fail
  refine HBD.out.mono ?_
  rintro e w4 ⟨m, rfl, hb4, R, X, rs, fs, xs, v1, v2, v3, hL⟩
  have HB4 := Lib.hid (HB3.out.trans (hb4.mono HB3.out.size))
  have hgt : GAtI w4 w2.heap.size (some t) [] := fun t' e => by
    cases e
    exact (HTP.out.fr (S := fun _ => False) (Fr.of_below0 hb4) (fun _ _ => id)).1
  have hsz : w2.heap.size ≤ w4.heap.size := Nat.le_trans HS3.out hb4.size
  have hjs : scx.toNat < d.states.length := by rw [← HLL.out]; exact hjn
  obtain ⟨b, o, vs, is, fb, bv, bi, bf, cv, ci, cf, rv, ri, rf, hxb, hH, hks, hvl, hSB⟩ := hL.helpAt HFM.out hjs HPS.out HXF.out hgt hsz
  obtain ⟨x3, k3, hv3, hcx⟩ := owns_at hL.made.o3 (j := scx.toNat) (by rw [hL.hx]; exact hjs)
  rw [hxb] at hcx
  have hcx1 : _ = some (Value.pointer (some ⟨b, 0, none⟩)) := hcx
  have hm2 : w4.cell? ⟨m, 2, none⟩ = some v3 := by rw [hL.made.blk.cell]; rfl
  rw [hv3] at hm2
  have hxl : scx < xs.length := by rw [hL.hx, ← HLL.out]; exact hin1
  have HH := Lib.hid (help_int _ _ _ _ _ _ _ _ _ _ _ _ _ _ _ _ _ _ _ _ _ hH (by simp) (by rw [hvl]; have := HXL.out; omega))
  have HKS := Lib.hid hks
  have HGT := Lib.hid hgt
  have HSZ := Lib.hid hsz
  have HSB := Lib.hid (fun k hk => Nat.le_trans HS3.out (hSB k hk))
  have HKL := Lib.hid (show (helpH d p scx.toNat).2.1.length ≤ 100000 from by have h := help_len d p scx.toNat; have := HXL.out; omega)
  have HSC := Lib.hid (show ((scx.toNat : Nat) : Int) = scx by omega)
  clear hb4 hL hgt hsz hjs hxb hH hks hvl hSB hcx hv3 HBD q0 q1 q2 q3 q4 HTP
  go_wp2_with fail
  refine HH.out.mono ?_
  rintro e w5 ⟨rfl, hst, hrep⟩
  rw [HKS.out, List.nil_append] at hst
  have HTK := Lib.hid (tape_kinds w5 _ t _ (hst.gate t rfl) (by have := HKL.out; omega))
  have HB5 := Lib.hid (HB4.out.trans ((hst.below HGT.out HSZ.out HSB.out).mono HB1.out.size))
  clear hst hrep HH hcx1 hm2 HKS
  go_wp2_with fail
  refine HTK.out.mono ?_
  rintro e w6 ⟨v6, rfl, hown, hb6⟩
  rw [HSC.out] at hown
  have HF := Lib.hid (show KinPost w (0, (helpH d p scx).2.1) (.returned (.tuple #[v6, .int .i64 0])) w6 from ⟨v6, rfl, own_weaken hown HB5.out.size, HB5.out.trans (hb6.mono HB5.out.size)⟩)
  obtain ⟨A6, c6, e6, _, _⟩ := owns_slice hown
  subst e6
  clear hown hb6 HTK
  go_wp2
  exact HQ'.out _ _ HF.out
end Go.Proofs.YtphhdmopfmelbaaGreat

/- larchlaw13: toWorld, toPlans, plain. -/
namespace Go.Proofs.YtphhdmopfmelbaaGreat
open Go.RowKit Go.Proofs.YtphhdmopfmelbaaGreatW.PrintWords
set_option linter.unusedVariables false
set_option linter.unusedSimpArgs false

abbrev zeroP : Value := .agg #[.slice none 0 0, .slice none 0 0, .slice none 0 0, .int .i64 0, .int .i64 0, .int .i64 0, .int .i64 0]
theorem pinfo_plan : (Tryz.prog.info? TPLN).map (fun i => (i.zero, i.size, i.bytes)) = some (some zeroP, 7, 104) := by kernel_rfl
theorem wsizeD : (Tryz.prog.info? TWD).map (·.size) = some 5 := by kernel_rfl
set_option maxHeartbeats 1000000 in
theorem law13_toWorld (w : World) (v : WV) (d : WD) : Calls Tryz.prog 23 #[v.val d] w fun e w' => e = .returned (v.val d) ∧ Below w.heap.size w w' := by
  refine calls_hide fun Q HQ => ?_
  have HQ' := Lib.hid HQ
  have hba := ((Below.refl w.heap.size w).alloc (Nat.le_refl _) (.cells (v.cells d).toArray TRW3)).alloc (by simp) (.cells #[.slice none 0 0, .slice none 0 0, .slice none 0 0, .slice none 0 0, .slice none 0 0] TWD)
  have hb2 := Blk.new (w.alloc (.cells (v.cells d).toArray TRW3)) TWD zeroW
  rw [World.size_alloc] at hb2
  have HBA := Lib.hid hba
  have hr0 := hb2.cell 0
  have hr1 := hb2.cell 1
  have hr2 := hb2.cell 2
  have hr3 := hb2.cell 3
  have hr4 := hb2.cell 4
  have hf0 := hb2.free ⟨w.heap.size + 1, 0, none⟩ rfl
  have hf1 := hb2.free ⟨w.heap.size + 1, 1, none⟩ rfl
  have hf2 := hb2.free ⟨w.heap.size + 1, 2, none⟩ rfl
  have hf3 := hb2.free ⟨w.heap.size + 1, 3, none⟩ rfl
  have hf4 := hb2.free ⟨w.heap.size + 1, 4, none⟩ rfl
  have HB2 := Lib.hid hb2
  clear HQ hba hb2 hr0 hr1 hr2 hr3 hr4 hf0 hf1 hf2 hf3 hf4
  go_enter Tryz.func23, Tryz.ntmps23
  go_wp2
  (try simp only [Exit.inBlock, Exit.then])
  refine bodyPost_ret (results_cell_row rfl _ _ (w.heap.size + 1) TWD _ (0, 0) _ rfl (show Blk _ (w.heap.size + 1) TWD (v.cells d) from by
    have h := Blk.new (w.alloc (.cells (v.cells d).toArray TRW3)) TWD (v.cells d)
    rw [World.size_alloc] at h
    exact h) Tryz.underlying60 rfl wsizeD) rfl ?_
  exact HQ'.out _ _ ⟨rfl, ((Below.refl w.heap.size w).alloc (Nat.le_refl _) _).alloc (by simp) _⟩
set_option maxHeartbeats 2000000 in
set_option maxRecDepth 100000 in
theorem law13_toPlans (w : World) (A : Option Addr) (c : Nat) (l : List PX) (hp : PlansAt w A l) (hl : l.length ≤ 1353245080300) :
    Calls Tryz.prog 24 #[.slice A l.length c] w fun e w' => ∃ A' c', e = .returned (.slice A' l.length c') ∧ PlansAt w' A' l ∧ Below w.heap.size w w' := by
  refine calls_hide fun Q HQ => ?_
  have HQ' := Lib.hid HQ
  have HP := Lib.hid hp
  clear HQ hp
  go_enter Tryz.func24, Tryz.ntmps24
  go_wp2
  go_loopw [8, 3] (fun k v wr => ∃ j : Nat, j ≤ l.length ∧ k = .int .i64 j ∧ Below w.heap.size w wr ∧ wr.ownsRow w.heap.size TPLN 7 v j ((l.take j).flatMap PX.cells)) (fun k _ _ => l.length - (intOf k).toNat)
  case atStart => exact ⟨0, Nat.zero_le _, rfl, Below.refl _ _, World.ownsRow_nil _ _ _ _⟩
  case round =>
    obtain ⟨j, hj, rfl, hb, ho⟩ := hrel
    have HB := Lib.hid hb
    have HO := Lib.hid ho
    clear hb ho
    by_cases hlt : j < l.length
    · obtain ⟨pb, po, hA, p0, p1, p2, p3, p4, p5, p6⟩ := HP.out.at_ hlt
      have q0 := pw_cell_below HB.out p0
      have q1 := pw_cell_below HB.out p1
      have q2 := pw_cell_below HB.out p2
      have q3 := pw_cell_below HB.out p3
      have q4 := pw_cell_below HB.out p4
      have q5 := pw_cell_below HB.out p5
      have q6 := pw_cell_below HB.out p6
      have HT := Lib.hid (take_one'' l j hlt)
      clear p0 p1 p2 p3 p4 p5 p6
      generalize l[j] = x at *
      obtain ⟨p, B0, k0, B1, k1, B2, k2⟩ := x
      simp only at q0 q1 q2 q3 q4 q5 q6
      subst hA
      obtain ⟨Av, cv, ev⟩ := own_slice HO.out
      subst ev
      have HOb := Lib.hid (HO.out.alloc (.cells #[.slice B0 p.V.length k0, .slice B1 p.infos.length k1, .slice B2 p.fin.length k2, .int .i64 p.at_, .int .i64 p.fld, .int .i64 p.old, .int .i64 p.new] 38))
      have HBb := Lib.hid (HB.out.alloc HB.out.size (.cells #[.slice B0 p.V.length k0, .slice B1 p.infos.length k1, .slice B2 p.fin.length k2, .int .i64 p.at_, .int .i64 p.fld, .int .i64 p.old, .int .i64 p.new] 38))
      go_wp2_with (at_builtin; refine print_append_cells (W := wr.alloc (.cells #[.slice B0 p.V.length k0, .slice B1 p.infos.length k1, .slice B2 p.fin.length k2, .int .i64 p.at_, .int .i64 p.fld, .int .i64 p.old, .int .i64 p.new] 38)) w.heap.size rfl _ _ 62 TPLN zeroP 7 104 rfl Tryz.underlying62 pinfo_plan rfl (by decide) (by decide) (.slice Av j cv) j _ [.slice B0 p.V.length k0, .slice B1 p.infos.length k1, .slice B2 p.fin.length k2, .int .i64 p.at_, .int .i64 p.fld, .int .i64 p.old, .int .i64 p.new] rfl (by rw [World.size_alloc]; rfl) rfl (by intro u hu; simp only [List.mem_cons, List.not_mem_nil, or_false] at hu; rcases hu with rfl | rfl | rfl | rfl | rfl | rfl | rfl <;> rfl) HOb.out HBb.out HBb.out.size (by omega) ?_)
      intro v1 w1 hown hb1 hg1 hat1
      have HN := Lib.hid (show w1.ownsRow w.heap.size TPLN 7 v1 (j + 1) ((l.take (j + 1)).flatMap PX.cells) from by
        rw [← HT.out, List.flatMap_append]; simpa using hown)
      have HB1 := Lib.hid hb1
      clear hown hb1 hg1 hat1 HOb HBb HO HB HT q0 q1 q2 q3 q4 q5 q6
      go_wp2
      go_roundw
      case rel => exact ⟨j + 1, by omega, by go_num, HB1.out, HN.out⟩
      case measure => simp [intOf]; omega
    · have hje : j = l.length := by omega
      subst hje
      have hown := HO.out
      rw [List.take_length] at hown
      obtain ⟨A', c', e, _, hat⟩ := own_plans hown (fun x hx => (HP.out.reads x hx).below HB.out)
      have HAT := Lib.hid hat
      subst e
      clear hown hat HO
      go_wp2
      exact HQ'.out _ _ ⟨_, _, rfl, HAT.out, HB.out⟩
end Go.Proofs.YtphhdmopfmelbaaGreat

/- larchlaw13: some, awake. Written by p_law13b.py. -/
namespace Go.Proofs.YtphhdmopfmelbaaGreat
open Go.RowKit Go.Proofs.YtphhdmopfmelbaaGreatW.PrintWords Go.Proofs.YtphhdmopfmelbaaGreatW.PrintLast
set_option linter.unusedVariables false
set_option linter.unusedSimpArgs false

theorem below_allocs (os : List Obj) (w : World) : Below w.heap.size w (os.foldl World.alloc w) := by
  induction os generalizing w with
  | nil => exact Below.refl _ _
  | cons o os ih => exact ((Below.refl w.heap.size w).alloc (Nat.le_refl _) o).trans ((ih (w.alloc o)).mono (by simp))
theorem blk_allocs (os : List Obj) (w : World) (i : Nat) (T : Nat) (xs : List Value) (h : os[i]? = some (.cells xs.toArray T)) : Blk (os.foldl World.alloc w) (w.heap.size + i) T xs := by
  induction os generalizing w i with
  | nil => simp at h
  | cons o os ih =>
    cases i with
    | zero =>
      simp only [List.getElem?_cons_zero, Option.some.injEq] at h
      subst h
      exact (Fr.of_below0 (S := fun _ => False) (below_allocs os _)).blk (Blk.new w T xs) id
    | succ i =>
      have := ih (w.alloc o) i (by simpa using h)
      rw [World.size_alloc] at this
      rwa [show w.heap.size + (i + 1) = w.heap.size + 1 + i by omega]
theorem C_of_blk {α : Type} {enc : α → Value} {h1 : ∀ x, (enc x).oneCell' = true} {w : World} {b T : Nat} {xs : List α} (h : Blk w b T (xs.map enc)) (hl : xs.length ≤ 9223372036854775807) : (Kd.scalar enc h1).C w (some ⟨b, 0, none⟩) xs.length xs := by
  refine ⟨rfl, hl, fun _ => ⟨_, rfl, fun j p hp => ⟨[enc p], rfl, rfl, fun i u hu => ?_⟩⟩⟩
  cases i with
  | zero =>
    simp only [List.getElem?_cons_zero, Option.some.injEq] at hu
    subst hu
    rw [Go.Proofs.YtphhdmopfmelbaaGreatW.PrintWords.add_plain, h.cell]
    simp [Kd.scalar, hp]
  | succ i => simp at hu
theorem CRow_of_blk {w : World} {b T : Nat} {us : List Value} {rows : List (List Int)} (h : Blk w b T us) (hl : us.length = rows.length) (hr : ∀ (i : Nat) (u : Value) (r : List Int), us[i]? = some u → rows[i]? = some r → ∃ A c, u = .slice A r.length c ∧ r.length ≤ c ∧ KInt.C w A r.length r) (hs : rows.length ≤ 9223372036854775807) :
    KRow.C w (some ⟨b, 0, none⟩) rows.length rows := by
  refine ⟨rfl, hs, fun _ => ⟨_, rfl, fun j p hp => ?_⟩⟩
  have hj := (List.getElem?_eq_some_iff.1 hp).1
  have hu := List.getElem?_eq_getElem (show j < us.length by omega)
  obtain ⟨A, c, e, k, hC⟩ := hr j _ p hu hp
  refine ⟨[us[j]], rfl, ⟨A, c, by rw [e], k, hC⟩, fun i u hu2 => ?_⟩
  cases i with
  | zero =>
    simp only [List.getElem?_cons_zero, Option.some.injEq] at hu2
    subst hu2
    rw [Go.Proofs.YtphhdmopfmelbaaGreatW.PrintWords.add_plain, h.cell]
    have e : j * KRow.sz + 0 = j := by show j * 1 + 0 = j; omega
    rw [e]
    exact hu
  | succ i => simp at hu2


theorem results_ct {P : Program} {fn : Func} {p b : Tmp} {ty : TypeId} (h : fn.results = #[.cell p ty, .tmp b]) (tmps : Array Value) (w : World) (g : Nat) (t : TypeId) (cs : Array Value) (fr : Nat × Nat) (d : TypeDesc)
    (hp : tmps.getD p undef = .pointer (some ⟨g, 0, none⟩)) (hg : w.heap[g]? = some (.cells cs t fr))
    (hu : P.underlying ty = some d) (hd : (match d with | .struct _ | .array _ _ => true | _ => false) = true) (hi : (P.info? ty).map (·.size) = some cs.size) :
    (results fn tmps).run P w = .ok (.tuple #[.agg cs, tmps.getD b undef]) w := by
  have hp' : tmps[p]?.getD undef = .pointer (some ⟨g, 0, none⟩) := by simpa using hp
  simp [results, h, hp', asAddr, run_loadVar_row w g t ty cs fr d hg hu hd hi]
instance (n lo hi : Int) : Decidable (inH n lo hi) := by unfold inH; exact inferInstance
def someD : WD := ⟨[[1, -1], [], []], [-1, -1, -1], [false, false, false], [0], [false]⟩
def someP : PlanD := ⟨[0, 1], [-1, -1], [false, true], 0, 0, 1, 2⟩
theorem some_check : chkH someD [someP] = 0 := by
  unfold chkH
  rw [if_neg, if_neg, if_pos]
  · intro p hp
    simp at hp
    subst hp
    exact ⟨by decide, rfl, rfl, by decide, by decide, by decide, by decide, by decide, by decide⟩
  · rintro (h | h)
    · exact h ⟨rfl, rfl, rfl, by decide, by decide, by decide⟩
    · exact h rfl
  · rintro (h | h | ⟨r, hr, h⟩ | ⟨p, hp, h⟩)
    · simp [someD] at h
    · simp [someD] at h
    · simp [someD] at hr; rcases hr with rfl | rfl <;> simp at h
    · simp at hp; subst hp; simp [someP] at h
theorem some_kinds : kinH someD [someP] 0 = (0, [5, 5, 2, 2, 5, 2]) := by
  rw [kin_good some_check (by decide)]
  rfl
set_option maxHeartbeats 4000000 in
set_option maxRecDepth 100000 in
theorem law13_some (w : World) : Calls Tryz.prog 21 #[] w fun e w' => ∃ (v : WV) (x : PX) (A : Option Addr) (c : Nat), e = .returned (.tuple #[v.val someD, .slice A 1 c]) ∧ x.p = someP ∧ v.Reads w' someD ∧ PlansAt w' A [x] ∧ Below w.heap.size w w' := by
  refine calls_hide fun Q HQ => ?_
  have HQ' := Lib.hid HQ
  have HR0 := Lib.hid (Blk.new w TRW3 zeroW)
  have HB0 := Lib.hid ((Below.refl w.heap.size w).alloc (Nat.le_refl _) (.cells #[.slice none 0 0, .slice none 0 0, .slice none 0 0, .slice none 0 0, .slice none 0 0] TRW3))
  clear HQ
  go_enter Tryz.func21, Tryz.ntmps21
  go_wp2
  refine start_ (n := 9) (S := fun _ => True) (ds := []) #[false, false, false, false, false, false, false, false, false] (by kernel_rfl) rfl rfl trivial (fun _ => ?_)
  generalize hwa : (w.alloc (.cells #[.slice none 0 0, .slice none 0 0, .slice none 0 0, .slice none 0 0, .slice none 0 0] TRW3)).drew = wA
  replace HR0 := Lib.hid (show Blk wA w.heap.size TRW3 zeroW from by rw [← hwa]; exact HR0.out.drew)
  replace HB0 := Lib.hid (show Below w.heap.size w wA from by rw [← hwa]; exact HB0.out.drew)
  clear hwa
  refine grow_region (md := .any) (w0 := wA) (B := [0, 1, 0, 0, 0, 0, 63, 0, 255]) [(0, 3), (1, 4), (2, 5), (3, 6), (4, 7), (5, 8), (6, 9), (7, 2)] [8] (fun i => [].contains i) (fun i => 0) (fun i V w' => match i with
      | 0 => ∃ s, V 0 = .slice (some ⟨s, 0, none⟩) 2 2 ∧ Blk w' s TII [.int .i64 1, .int .i64 (-1)]
      | 1 => ∃ s, V 1 = .slice (some ⟨s, 0, none⟩) 3 3 ∧ Blk w' s TRI [V 0, .slice none 0 0, .slice none 0 0]
      | 2 => ∃ s, V 2 = .slice (some ⟨s, 0, none⟩) 3 3 ∧ Blk w' s TII [.int .i64 (-1), .int .i64 (-1), .int .i64 (-1)]
      | 3 => ∃ s, V 3 = .slice (some ⟨s, 0, none⟩) 3 3 ∧ Blk w' s TBB [.bool false, .bool false, .bool false]
      | 4 => ∃ s, V 4 = .slice (some ⟨s, 0, none⟩) 1 1 ∧ Blk w' s TII [.int .i64 0]
      | 5 => ∃ s, V 5 = .slice (some ⟨s, 0, none⟩) 1 1 ∧ Blk w' s TBB [.bool false]
      | 6 => V 6 = .agg #[V 1, V 2, V 3, V 4, V 5]
      | 7 => ∃ g, V 7 = .pointer (some ⟨g, 0, none⟩) ∧ Blk w' g TRW3 zeroW ∧ wA.heap.size ≤ g
      | _ => True) rfl (by kernel_rfl) (by kernel_rfl) (by kernel_rfl) (by kernel_rfl) (by kernel_rfl) (by kernel_rfl) (by kernel_rfl) (by kernel_rfl) ?_ ?_ ?_ ?_
  · intro e he V V' w' h hp
    simp only [List.mem_cons, List.not_mem_nil, or_false] at he
    rcases he with rfl | rfl | rfl | rfl | rfl | rfl | rfl | rfl
    · simp only [← h 0 (.inl rfl)]; exact hp
    · simp only [← h 1 (.inl rfl), ← h 0 (.inr (by kernel_rfl))]; exact hp
    · simp only [← h 2 (.inl rfl)]; exact hp
    · simp only [← h 3 (.inl rfl)]; exact hp
    · simp only [← h 4 (.inl rfl)]; exact hp
    · simp only [← h 5 (.inl rfl)]; exact hp
    · simp only [← h 6 (.inl rfl), ← h 1 (.inr (by kernel_rfl)), ← h 2 (.inr (by kernel_rfl)), ← h 3 (.inr (by kernel_rfl)), ← h 4 (.inr (by kernel_rfl)), ← h 5 (.inr (by kernel_rfl))]; exact hp
    · simp only [← h 7 (.inl rfl)]; exact hp
  · intro e he V w1 w2 hp hb
    simp only [List.mem_cons, List.not_mem_nil, or_false] at he
    rcases he with rfl | rfl | rfl | rfl | rfl | rfl | rfl | rfl
    · exact let ⟨s, h1, h2⟩ := hp; ⟨s, h1, (Fr.of_below0 (S := fun _ => False) hb).blk h2 id⟩
    · exact let ⟨s, h1, h2⟩ := hp; ⟨s, h1, (Fr.of_below0 (S := fun _ => False) hb).blk h2 id⟩
    · exact let ⟨s, h1, h2⟩ := hp; ⟨s, h1, (Fr.of_below0 (S := fun _ => False) hb).blk h2 id⟩
    · exact let ⟨s, h1, h2⟩ := hp; ⟨s, h1, (Fr.of_below0 (S := fun _ => False) hb).blk h2 id⟩
    · exact let ⟨s, h1, h2⟩ := hp; ⟨s, h1, (Fr.of_below0 (S := fun _ => False) hb).blk h2 id⟩
    · exact let ⟨s, h1, h2⟩ := hp; ⟨s, h1, (Fr.of_below0 (S := fun _ => False) hb).blk h2 id⟩
    · exact hp
    · exact let ⟨s, h1, h2, h3⟩ := hp; ⟨s, h1, (Fr.of_below0 (S := fun _ => False) hb).blk h2 id, h3⟩
  · intro e he
    simp only [List.mem_cons, List.not_mem_nil, or_false] at he
    rcases he with rfl | rfl | rfl | rfl | rfl | rfl | rfl | rfl
    · intro V a w' hd ho hB
      refine ⟨_, rfl, rfl, fun K hK => ?_⟩
      refine value_ (w1 := w'.alloc (.cells #[.int .i64 1, .int .i64 (-1)] 3)) (v := .slice (some ⟨w'.heap.size, 0, none⟩) 2 2) rfl rfl ?_ (hK.out _ _ ((Below.refl _ _).alloc (Nat.le_refl _) _) ⟨w'.heap.size, setV_self _ _ _, Blk.new w' TII [.int .i64 1, .int .i64 (-1)]⟩ (fun h => absurd h (by decide)))
      clear hd ho hK
      go_simp
    · intro V a w' hd ho hB
      obtain ⟨e3, p3, o3⟩ := hd (0, 3) (by decide) (by kernel_rfl)
      obtain ⟨s0, x0, _⟩ := p3
      rw [x0] at e3
      refine ⟨_, rfl, rfl, fun K hK => ?_⟩
      refine value_ (w1 := w'.alloc (.cells #[V 0, .slice none 0 0, .slice none 0 0] 23)) (v := .slice (some ⟨w'.heap.size, 0, none⟩) 3 3) rfl rfl ?_ (hK.out _ _ ((Below.refl _ _).alloc (Nat.le_refl _) _) ⟨w'.heap.size, setV_self _ _ _, Blk.new w' TRI [V 0, .slice none 0 0, .slice none 0 0]⟩ (fun h => absurd h (by decide)))
      clear hd ho hK
      rw [x0]
      go_simp
    · intro V a w' hd ho hB
      refine ⟨_, rfl, rfl, fun K hK => ?_⟩
      refine value_ (w1 := w'.alloc (.cells #[.int .i64 (-1), .int .i64 (-1), .int .i64 (-1)] 3)) (v := .slice (some ⟨w'.heap.size, 0, none⟩) 3 3) rfl rfl ?_ (hK.out _ _ ((Below.refl _ _).alloc (Nat.le_refl _) _) ⟨w'.heap.size, setV_self _ _ _, Blk.new w' TII [.int .i64 (-1), .int .i64 (-1), .int .i64 (-1)]⟩ (fun h => absurd h (by decide)))
      clear hd ho hK
      go_simp
    · intro V a w' hd ho hB
      refine ⟨_, rfl, rfl, fun K hK => ?_⟩
      refine value_ (w1 := w'.alloc (.cells #[.bool false, .bool false, .bool false] 4)) (v := .slice (some ⟨w'.heap.size, 0, none⟩) 3 3) rfl rfl ?_ (hK.out _ _ ((Below.refl _ _).alloc (Nat.le_refl _) _) ⟨w'.heap.size, setV_self _ _ _, Blk.new w' TBB [.bool false, .bool false, .bool false]⟩ (fun h => absurd h (by decide)))
      have hmc : madeCells #[.bool false] 3 = #[.bool false, .bool false, .bool false] := by apply Array.toList_inj.1; rw [toList_madeCells_one]; rfl
      have hmk : (Instr.makeSlice 24 (.int .i64 3) (.int .i64 3)).run Tryz.prog w' = .ok (.slice (some ⟨w'.heap.size, 0, none⟩) 3 3) (w'.alloc (.cells #[.bool false, .bool false, .bool false] 4)) := by rw [← hmc]; exact run_make_row' (P := Tryz.prog) 24 4 (.bool false) 1 Tryz.underlying24 winfo_bool rfl .i64 .i64 3 (by decide) (by decide) w'
      clear hd ho hK hmc
      go_simp
    · intro V a w' hd ho hB
      refine ⟨_, rfl, rfl, fun K hK => ?_⟩
      refine value_ (w1 := w'.alloc (.cells #[.int .i64 0] 3)) (v := .slice (some ⟨w'.heap.size, 0, none⟩) 1 1) rfl rfl ?_ (hK.out _ _ ((Below.refl _ _).alloc (Nat.le_refl _) _) ⟨w'.heap.size, setV_self _ _ _, Blk.new w' TII [.int .i64 0]⟩ (fun h => absurd h (by decide)))
      clear hd ho hK
      go_simp
    · intro V a w' hd ho hB
      refine ⟨_, rfl, rfl, fun K hK => ?_⟩
      refine value_ (w1 := w'.alloc (.cells #[.bool false] 4)) (v := .slice (some ⟨w'.heap.size, 0, none⟩) 1 1) rfl rfl ?_ (hK.out _ _ ((Below.refl _ _).alloc (Nat.le_refl _) _) ⟨w'.heap.size, setV_self _ _ _, Blk.new w' TBB [.bool false]⟩ (fun h => absurd h (by decide)))
      have hmc : madeCells #[.bool false] 1 = #[.bool false] := by apply Array.toList_inj.1; rw [toList_madeCells_one]; rfl
      have hmk : (Instr.makeSlice 24 (.int .i64 1) (.int .i64 1)).run Tryz.prog w' = .ok (.slice (some ⟨w'.heap.size, 0, none⟩) 1 1) (w'.alloc (.cells #[.bool false] 4)) := by rw [← hmc]; exact run_make_row' (P := Tryz.prog) 24 4 (.bool false) 1 Tryz.underlying24 winfo_bool rfl .i64 .i64 1 (by decide) (by decide) w'
      clear hd ho hK hmc
      go_simp
    · intro V a w' hd ho hB
      obtain ⟨e4, p4, o4⟩ := hd (1, 4) (by decide) (by kernel_rfl)
      obtain ⟨e5, p5, o5⟩ := hd (2, 5) (by decide) (by kernel_rfl)
      obtain ⟨e6, p6, o6⟩ := hd (3, 6) (by decide) (by kernel_rfl)
      obtain ⟨e7, p7, o7⟩ := hd (4, 7) (by decide) (by kernel_rfl)
      obtain ⟨e8, p8, o8⟩ := hd (5, 8) (by decide) (by kernel_rfl)
      obtain ⟨s1, x1, _⟩ := p4
      obtain ⟨s2, x2, _⟩ := p5
      obtain ⟨s3, x3, _⟩ := p6
      obtain ⟨s4, x4, _⟩ := p7
      obtain ⟨s5, x5, _⟩ := p8
      rw [x1] at e4
      rw [x2] at e5
      rw [x3] at e6
      rw [x4] at e7
      rw [x5] at e8
      refine ⟨_, rfl, rfl, fun K hK => ?_⟩
      refine value_ (w1 := w') (v := .agg #[V 1, V 2, V 3, V 4, V 5]) rfl rfl ?_ (hK.out _ _ (Below.refl _ _) (setV_self _ _ _) (fun h => absurd h (by decide)))
      clear hd ho hK
      rw [x1, x2, x3, x4, x5]
      go_simp
    · intro V a w' hd ho hB
      refine ⟨_, rfl, rfl, fun K hK => ?_⟩
      refine value_ (w1 := w'.alloc (.cells zeroW.toArray TRW3)) (v := .pointer (some ⟨w'.heap.size, 0, none⟩)) rfl rfl ?_ (hK.out _ _ ((Below.refl _ _).alloc (Nat.le_refl _) _) ⟨w'.heap.size, setV_self _ _ _, Blk.new w' TRW3 zeroW, hB.size⟩ (fun h => absurd h (by decide)))
      clear hd ho hK
      go_simp
  · intro V a w' hfr hB hP hap hlt
    have P0 := hP (0, 3) (by decide)
    have P1 := hP (1, 4) (by decide)
    have P2 := hP (2, 5) (by decide)
    have P3 := hP (3, 6) (by decide)
    have P4 := hP (4, 7) (by decide)
    have P5 := hP (5, 8) (by decide)
    have P6 := hP (6, 9) (by decide)
    have P7 := hP (7, 2) (by decide)
    clear hP
    obtain ⟨s0, x0, B0⟩ := P0
    obtain ⟨s1, x1, B1⟩ := P1
    obtain ⟨s2, x2, B2⟩ := P2
    obtain ⟨s3, x3, B3⟩ := P3
    obtain ⟨s4, x4, B4⟩ := P4
    obtain ⟨s5, x5, B5⟩ := P5
    obtain ⟨g, xg, Bg, hgl⟩ := P7
    have hrr := HR0.out.below hB HR0.out.lt
    subst hfr
    simp only [vrows, List.map_cons, List.map_nil, putSel, if_true, Act.put, List.setIfInBounds_toArray, List.set_cons_zero, List.set_cons_succ]
    rw [x1, x2, x3, x4, x5] at P6
    rw [x0] at B1
    have hst := run_store_run (P := Tryz.prog) (w := w') (g := g) (o := 0) TRW3 (.agg #[.slice (some ⟨s1, 0, none⟩) 3 3, .slice (some ⟨s2, 0, none⟩) 3 3, .slice (some ⟨s3, 0, none⟩) 3 3, .slice (some ⟨s4, 0, none⟩) 1 1, .slice (some ⟨s5, 0, none⟩) 1 1]) [.slice (some ⟨s1, 0, none⟩) 3 3, .slice (some ⟨s2, 0, none⟩) 3 3, .slice (some ⟨s3, 0, none⟩) 3 3, .slice (some ⟨s4, 0, none⟩) 1 1, .slice (some ⟨s5, 0, none⟩) 1 1] Bg rfl wsizeR3 (by simp) (by intro q hq; simp only [List.mem_cons, List.not_mem_nil, or_false] at hq; rcases hq with rfl | rfl | rfl | rfl | rfl <;> rfl)
    refine seq_skip rfl rfl rfl (store_exec rfl (eval_of (by exact congrArg some xg)) (eval_of (by exact congrArg some P6)) hst) ?_
    obtain ⟨hgz, hfz⟩ : Blk (w'.setCells g 0 [.slice (some ⟨s1, 0, none⟩) 3 3, .slice (some ⟨s2, 0, none⟩) 3 3, .slice (some ⟨s3, 0, none⟩) 3 3, .slice (some ⟨s4, 0, none⟩) 1 1, .slice (some ⟨s5, 0, none⟩) 1 1]) g TRW3 [.slice (some ⟨s1, 0, none⟩) 3 3, .slice (some ⟨s2, 0, none⟩) 3 3, .slice (some ⟨s3, 0, none⟩) 3 3, .slice (some ⟨s4, 0, none⟩) 1 1, .slice (some ⟨s5, 0, none⟩) 1 1] ∧ Fr w' (w'.setCells g 0 [.slice (some ⟨s1, 0, none⟩) 3 3, .slice (some ⟨s2, 0, none⟩) 3 3, .slice (some ⟨s3, 0, none⟩) 3 3, .slice (some ⟨s4, 0, none⟩) 1 1, .slice (some ⟨s5, 0, none⟩) 1 1]) (fun k => k = g) := res_end3 (cs := []) Bg (.slice (some ⟨s1, 0, none⟩) 3 3) (.slice (some ⟨s2, 0, none⟩) 3 3) (.slice (some ⟨s3, 0, none⟩) 3 3) (.slice (some ⟨s4, 0, none⟩) 1 1) (.slice (some ⟨s5, 0, none⟩) 1 1) _ rfl
    have key : ∀ {q T : Nat} {ys : List Value}, Blk w' q T ys → T ≠ TRW3 → Blk (w'.setCells g 0 [.slice (some ⟨s1, 0, none⟩) 3 3, .slice (some ⟨s2, 0, none⟩) 3 3, .slice (some ⟨s3, 0, none⟩) 3 3, .slice (some ⟨s4, 0, none⟩) 1 1, .slice (some ⟨s5, 0, none⟩) 1 1]) q T ys := fun hb hT => hfz.blk hb (fun e => by subst e; exact hT (hb.inj Bg).1)
    have Z0 := key B0 (by decide)
    have Z1 := key B1 (by decide)
    have Z2 := key B2 (by decide)
    have Z3 := key B3 (by decide)
    have Z4 := key B4 (by decide)
    have Z5 := key B5 (by decide)
    have hbz := HB0.out.trans ((hB.mono HB0.out.size).trans (hfz.below (Nat.le_trans HB0.out.size hB.size) (fun k hk => by rw [hk]; exact Nat.le_trans HB0.out.size hgl)))
    have hrz : Blk (w'.setCells g 0 [.slice (some ⟨s1, 0, none⟩) 3 3, .slice (some ⟨s2, 0, none⟩) 3 3, .slice (some ⟨s3, 0, none⟩) 3 3, .slice (some ⟨s4, 0, none⟩) 1 1, .slice (some ⟨s5, 0, none⟩) 1 1]) w.heap.size TRW3 zeroW := hfz.blk hrr (fun e => by have := HR0.out.lt; omega)
    rw [xg]
    clear hst hfz hap hlt P6 hB hgl key Bg B0 B1 B2 B3 B4 B5 hrr HR0 HB0
    generalize w'.setCells g 0 [.slice (some ⟨s1, 0, none⟩) 3 3, .slice (some ⟨s2, 0, none⟩) 3 3, .slice (some ⟨s3, 0, none⟩) 3 3, .slice (some ⟨s4, 0, none⟩) 1 1, .slice (some ⟨s5, 0, none⟩) 1 1] = wB at *
    generalize V 0 = v0 at *
    generalize V 1 = v1 at *
    generalize V 2 = v2 at *
    generalize V 3 = v3 at *
    generalize V 4 = v4 at *
    generalize V 5 = v5 at *
    generalize V 6 = v6 at *
    generalize V 7 = v7 at *
    subst x0 x1 x2 x3 x4 x5 xg
    have c0 := hgz.cell 0
    have c1 := hgz.cell 1
    have c2 := hgz.cell 2
    have c3 := hgz.cell 3
    have c4 := hgz.cell 4
    have h4 := (((hrz.alloc (.cells #[.int .i64 0, .int .i64 1] 3)).alloc (.cells #[.int .i64 (-1), .int .i64 (-1)] 3)).alloc (.cells #[.bool false, .bool true] 4)).alloc (.cells #[.slice (some ⟨wB.heap.size, 0, none⟩) 2 2, .slice (some ⟨wB.heap.size + 1, 0, none⟩) 2 2, .slice (some ⟨wB.heap.size + 1 + 1, 0, none⟩) 2 2, .int .i64 0, .int .i64 0, .int .i64 1, .int .i64 2] 38)
    have r0 := h4.cell 0
    have r1 := h4.cell 1
    have r2 := h4.cell 2
    have r3 := h4.cell 3
    have r4 := h4.cell 4
    have f0 := h4.free ⟨w.heap.size, 0, none⟩ rfl
    have f1 := h4.free ⟨w.heap.size, 1, none⟩ rfl
    have f2 := h4.free ⟨w.heap.size, 2, none⟩ rfl
    have f3 := h4.free ⟨w.heap.size, 3, none⟩ rfl
    have f4 := h4.free ⟨w.heap.size, 4, none⟩ rfl
    simp only [List.getElem?_cons_zero, List.getElem?_cons_succ] at c0 c1 c2 c3 c4 r0 r1 r2 r3 r4
    have H4 := Lib.hid h4
    have HZ0 := Lib.hid Z0
    have HZ1 := Lib.hid Z1
    have HZ2 := Lib.hid Z2
    have HZ3 := Lib.hid Z3
    have HZ4 := Lib.hid Z4
    have HZ5 := Lib.hid Z5
    have HBZ := Lib.hid hbz
    have HRZ := Lib.hid hrz
    have hlr := hrz.lt
    have HLR := Lib.hid hlr
    clear Z0 Z1 Z2 Z3 Z4 Z5 hbz hrz hgz h4
    refine seq_nil ?_
    go_wp2
    (try simp only [Exit.inBlock, Exit.then])
    have HEND := Lib.hid (fun wz e => res_end3 (cs := []) H4.out (.slice (some ⟨s1, 0, none⟩) 3 3) (.slice (some ⟨s2, 0, none⟩) 3 3) (.slice (some ⟨s3, 0, none⟩) 3 3) (.slice (some ⟨s4, 0, none⟩) 1 1) (.slice (some ⟨s5, 0, none⟩) 1 1) wz e)
    refine bodyPost_ret (results_ct rfl _ _ w.heap.size TRW3 _ (0, 0) _ rfl (HEND.out _ rfl).1 Tryz.underlying26 rfl wsizeR3) rfl ?_
    have hfr := (HEND.out _ rfl).2
    have key : ∀ {q T : Nat} {ys : List Value}, Blk ([.cells #[.int .i64 0, .int .i64 1] 3, .cells #[.int .i64 (-1), .int .i64 (-1)] 3, .cells #[.bool false, .bool true] 4, .cells #[.slice (some ⟨wB.heap.size, 0, none⟩) 2 2, .slice (some ⟨wB.heap.size + 1, 0, none⟩) 2 2, .slice (some ⟨wB.heap.size + 1 + 1, 0, none⟩) 2 2, .int .i64 0, .int .i64 0, .int .i64 1, .int .i64 2] 38].foldl World.alloc wB) q T ys → T ≠ TRW3 → Blk _ q T ys := fun hb hT => hfr.blk hb (fun e => by subst e; exact hT (hb.inj H4.out).1)
    have old : ∀ {q T : Nat} {ys : List Value}, Blk wB q T ys → T ≠ TRW3 → Blk _ q T ys := fun hb hT => key ((((hb.alloc _).alloc _).alloc _).alloc _) hT
    have N0 := key (blk_allocs [.cells #[.int .i64 0, .int .i64 1] 3, .cells #[.int .i64 (-1), .int .i64 (-1)] 3, .cells #[.bool false, .bool true] 4, .cells #[.slice (some ⟨wB.heap.size, 0, none⟩) 2 2, .slice (some ⟨wB.heap.size + 1, 0, none⟩) 2 2, .slice (some ⟨wB.heap.size + 1 + 1, 0, none⟩) 2 2, .int .i64 0, .int .i64 0, .int .i64 1, .int .i64 2] 38] wB 0 TII [.int .i64 0, .int .i64 1] rfl) (by decide)
    have N1 := key (blk_allocs [.cells #[.int .i64 0, .int .i64 1] 3, .cells #[.int .i64 (-1), .int .i64 (-1)] 3, .cells #[.bool false, .bool true] 4, .cells #[.slice (some ⟨wB.heap.size, 0, none⟩) 2 2, .slice (some ⟨wB.heap.size + 1, 0, none⟩) 2 2, .slice (some ⟨wB.heap.size + 1 + 1, 0, none⟩) 2 2, .int .i64 0, .int .i64 0, .int .i64 1, .int .i64 2] 38] wB 1 TII [.int .i64 (-1), .int .i64 (-1)] rfl) (by decide)
    have N2 := key (blk_allocs [.cells #[.int .i64 0, .int .i64 1] 3, .cells #[.int .i64 (-1), .int .i64 (-1)] 3, .cells #[.bool false, .bool true] 4, .cells #[.slice (some ⟨wB.heap.size, 0, none⟩) 2 2, .slice (some ⟨wB.heap.size + 1, 0, none⟩) 2 2, .slice (some ⟨wB.heap.size + 1 + 1, 0, none⟩) 2 2, .int .i64 0, .int .i64 0, .int .i64 1, .int .i64 2] 38] wB 2 TBB [.bool false, .bool true] rfl) (by decide)
    have N3 := key (blk_allocs [.cells #[.int .i64 0, .int .i64 1] 3, .cells #[.int .i64 (-1), .int .i64 (-1)] 3, .cells #[.bool false, .bool true] 4, .cells #[.slice (some ⟨wB.heap.size, 0, none⟩) 2 2, .slice (some ⟨wB.heap.size + 1, 0, none⟩) 2 2, .slice (some ⟨wB.heap.size + 1 + 1, 0, none⟩) 2 2, .int .i64 0, .int .i64 0, .int .i64 1, .int .i64 2] 38] wB 3 38 [.slice (some ⟨wB.heap.size, 0, none⟩) 2 2, .slice (some ⟨wB.heap.size + 1, 0, none⟩) 2 2, .slice (some ⟨wB.heap.size + 1 + 1, 0, none⟩) 2 2, .int .i64 0, .int .i64 0, .int .i64 1, .int .i64 2] rfl) (by decide)
    have O0 := old HZ0.out (by decide)
    have O1 := old HZ1.out (by decide)
    have O2 := old HZ2.out (by decide)
    have O3 := old HZ3.out (by decide)
    have O4 := old HZ4.out (by decide)
    have O5 := old HZ5.out (by decide)
    refine HQ'.out _ _ ⟨⟨some ⟨s1, 0, none⟩, 3, some ⟨s2, 0, none⟩, 3, some ⟨s3, 0, none⟩, 3, some ⟨s4, 0, none⟩, 1, some ⟨s5, 0, none⟩, 1⟩, ⟨someP, some ⟨wB.heap.size, 0, none⟩, 2, some ⟨wB.heap.size + 1, 0, none⟩, 2, some ⟨wB.heap.size + 2, 0, none⟩, 2⟩, _, _, rfl, rfl, ?_, ?_, ?_⟩
    · refine ⟨CRow_of_blk (rows := [[1, -1], [], []]) O1 rfl ?_ (by simp), Nat.le_refl _, C_of_blk (xs := [-1, -1, -1]) O2 (by simp), Nat.le_refl _, C_of_blk (xs := [false, false, false]) O3 (by simp), Nat.le_refl _, C_of_blk (xs := [0]) O4 (by simp), Nat.le_refl _, C_of_blk (xs := [false]) O5 (by simp), Nat.le_refl _⟩
      intro i u r hu hr
      match i, hu, hr with
      | 0, hu, hr =>
        simp at hu hr
        subst hu hr
        exact ⟨_, _, rfl, Nat.le_refl _, C_of_blk (xs := [1, -1]) O0 (by simp)⟩
      | 1, hu, hr =>
        simp at hu hr
        subst hu hr
        exact ⟨none, 0, rfl, Nat.le_refl _, Kd.C_nil _ _⟩
      | 2, hu, hr =>
        simp at hu hr
        subst hu hr
        exact ⟨none, 0, rfl, Nat.le_refl _, Kd.C_nil _ _⟩
      | i + 3, hu, hr => simp at hu
    · refine ⟨fun _ => ⟨wB.heap.size + 3, 0, rfl, fun j x hx i u hu => ?_⟩, fun x hx => ?_⟩
      · match j, hx with
        | 0, hx =>
          simp at hx
          subst hx
          rw [show 0 + 0 * 7 + i = i by omega]
          exact (N3.cell i).trans hu
        | j + 1, hx => simp at hx
      · simp at hx
        subst hx
        exact ⟨C_of_blk (xs := [0, 1]) N0 (by simp), Nat.le_refl _, C_of_blk (xs := [-1, -1]) N1 (by simp), Nat.le_refl _, C_of_blk (xs := [false, true]) N2 (by simp), Nat.le_refl _⟩
    · have hs1 : w.heap.size ≤ wB.heap.size := Nat.le_of_lt HLR.out
      exact (HBZ.out.trans ((below_allocs [.cells #[.int .i64 0, .int .i64 1] 3, .cells #[.int .i64 (-1), .int .i64 (-1)] 3, .cells #[.bool false, .bool true] 4, .cells #[.slice (some ⟨wB.heap.size, 0, none⟩) 2 2, .slice (some ⟨wB.heap.size + 1, 0, none⟩) 2 2, .slice (some ⟨wB.heap.size + 1 + 1, 0, none⟩) 2 2, .int .i64 0, .int .i64 0, .int .i64 1, .int .i64 2] 38] wB).mono hs1)).trans (hfr.below (Nat.le_trans hs1 (below_allocs [.cells #[.int .i64 0, .int .i64 1] 3, .cells #[.int .i64 (-1), .int .i64 (-1)] 3, .cells #[.bool false, .bool true] 4, .cells #[.slice (some ⟨wB.heap.size, 0, none⟩) 2 2, .slice (some ⟨wB.heap.size + 1, 0, none⟩) 2 2, .slice (some ⟨wB.heap.size + 1 + 1, 0, none⟩) 2 2, .int .i64 0, .int .i64 0, .int .i64 1, .int .i64 2] 38] wB).size) (fun k hk => Nat.le_of_eq hk.symm))
end Go.Proofs.YtphhdmopfmelbaaGreat

/- larchlaw13: awake. -/
namespace Go.Proofs.YtphhdmopfmelbaaGreat
open Go.RowKit Go.Proofs.YtphhdmopfmelbaaGreatW.PrintWords Go.Proofs.YtphhdmopfmelbaaGreatW.PrintLast
set_option linter.unusedVariables false
set_option linter.unusedSimpArgs false

set_option maxHeartbeats 2000000 in
set_option maxRecDepth 100000 in
theorem law13_awake (w : World) : Calls Tryz.prog 4 #[] w fun e w' => e = .returned (.bool true) ∧ Below w.heap.size w w' := by
  refine calls_hide fun Q HQ => ?_
  have HQ' := Lib.hid HQ
  clear HQ
  go_enter Tryz.func4, Tryz.ntmps4
  go_wp2_with fail
  refine (law13_some w).mono ?_
  rintro e w1 ⟨v, x, A, c, rfl, hxp, hv, hp, hb⟩
  have HB1 := Lib.hid hb
  have HV1 := Lib.hid hv
  have HP1 := Lib.hid hp
  have HXP := Lib.hid hxp
  have hbk := Blk.new w1 TRW3 (v.cells someD)
  have hal := (Below.refl w1.heap.size w1).alloc (Nat.le_refl _) (.cells (v.cells someD).toArray TRW3)
  have c0 := hbk.cell 0
  have c1 := hbk.cell 1
  have c2 := hbk.cell 2
  have c3 := hbk.cell 3
  have c4 := hbk.cell 4
  simp only [List.getElem?_cons_zero, List.getElem?_cons_succ] at c0 c1 c2 c3 c4
  have HB2 := Lib.hid (HB1.out.trans (hal.mono HB1.out.size))
  have HV2 := Lib.hid (HV1.out.below hal)
  have HP2 := Lib.hid (HP1.out.below hal)
  clear hb hv hp hxp hbk hal
  go_wp2_with fail
  refine (law13_toWorld _ v someD).mono ?_
  rintro e w3 ⟨rfl, hb3⟩
  have HB3 := Lib.hid (HB2.out.trans (hb3.mono HB2.out.size))
  have HV3 := Lib.hid (HV2.out.below hb3)
  have HP3 := Lib.hid (HP2.out.below hb3)
  clear hb3 c0 c1 c2 c3 c4 HB1 HB2 HV1 HV2 HP1 HP2
  go_wp2_with fail
  refine (law13_toPlans w3 A c [x] HP3.out (by simp)).mono ?_
  rintro e w4 ⟨A', c', rfl, hp4, hb4⟩
  have HB4 := Lib.hid (HB3.out.trans (hb4.mono HB3.out.size))
  have HV4 := Lib.hid (HV3.out.below hb4)
  have HP4 := Lib.hid hp4
  clear hp4 hb4 HB3 HV3 HP3
  go_wp2_with fail
  refine (help_Kinds w4 v someD A' c' [x] 0 HV4.out HP4.out (by simp [someD]) (by simp [someD]) (by simp [someD]) (by simp) (by simp [HXP.out, someP])).mono ?_
  rintro e w5 ⟨v5, rfl, hown, hb5⟩
  have hk : kinH someD ([x].map PX.p) 0 = (0, [5, 5, 2, 2, 5, 2]) := by
    rw [List.map_cons, List.map_nil, HXP.out]; exact some_kinds
  rw [hk] at hown ⊢
  simp only at hown
  have HB5 := Lib.hid (HB4.out.trans (hb5.mono HB4.out.size))
  obtain ⟨A5, c5, e5, hr5, _⟩ := owns_slice hown
  have HR5 := Lib.hid (show Row1 w5 A5 [5, 5, 2, 2, 5, 2].length (([5, 5, 2, 2, 5, 2] : List Int).map (Value.int .i64)) from hr5)
  clear hown hb5 hk hr5 HB4 HV4 HP4
  have hs5 : v5 = .slice A5 6 c5 := e5
  subst hs5
  clear e5
  go_wp2_with fail
  have hal := (Below.refl w5.heap.size w5).alloc (Nat.le_refl _) (.cells ((([5, 5, 2, 2, 5, 2] : List Int).map (Value.int .i64))).toArray TII)
  have hrow := Row1.of_blk (w := w5.alloc (.cells ((([5, 5, 2, 2, 5, 2] : List Int).map (Value.int .i64))).toArray TII)) (rest := []) (us := ([5, 5, 2, 2, 5, 2] : List Int).map (Value.int .i64)) (by rw [List.append_nil]; exact Blk.new w5 TII _)
  refine (ref02_Ints A5 c5 [5, 5, 2, 2, 5, 2] (some ⟨w5.heap.size, 0, none⟩) 6 [5, 5, 2, 2, 5, 2] _ (HR5.out.below hal) hrow (by simp)).mono ?_
  rintro e w6 ⟨rfl, mm, rfl⟩
  have HB6 := Lib.hid (HB5.out.trans ((pw_below_drewN hal mm).mono HB5.out.size))
  rw [decide_eq_true rfl]
  clear hal hrow HR5 HB5
  go_wp2
  exact HQ'.out _ _ ⟨rfl, HB6.out⟩
theorem kin_len {d : WD} {l : List PX} {scx : Int} (h : ∀ x ∈ l, x.p.V.length < 100000000000000) : (kinH d (l.map PX.p) scx).2.length ≤ 1000000000000000 := by
  unfold kinH
  split
  · simp
  · split
    · rename_i h1 h2
      have h3 := help_len d ((l.map PX.p).getD scx.toNat default) scx
      have h4 : ((l.map PX.p).getD scx.toNat default).V.length < 100000000000000 := by
        have hj : scx.toNat < (l.map PX.p).length := by have := h2.1; have := h2.2; omega
        rw [List.getD_eq_getElem?_getD, List.getElem?_eq_getElem hj, Option.getD_some, List.getElem_map]
        exact h _ (List.getElem_mem _)
      show (helpH d ((l.map PX.p).getD scx.toNat default) scx).2.1.length ≤ _
      omega
    · simp
abbrev TCA13 : Nat := 29
end Go.Proofs.YtphhdmopfmelbaaGreat

/- The argument of the statements of layer 13, as it is read. Printed by p_case13.py. -/
namespace Go.Proofs.YtphhdmopfmelbaaGreat
open Go.ChangeShapes Go.WideShapes Go.ChangeAt Go.RowKit Go.Proofs.YtphhdmopfmelbaaGreatW.PrintWords
set_option linter.unusedVariables false
set_option linter.unusedSimpArgs false

abbrev TPL3 : Nat := 38
abbrev TPS3 : Nat := 27
theorem cells_int : Tryz.prog.cellsOf 3 = 1 := by kernel_rfl
theorem cells_bool : Tryz.prog.cellsOf 4 = 1 := by kernel_rfl
theorem cells_row : Tryz.prog.cellsOf 23 = 1 := by kernel_rfl
theorem cells_rows : Tryz.prog.cellsOf 22 = 1 := by kernel_rfl
theorem cells_bools : Tryz.prog.cellsOf 24 = 1 := by kernel_rfl
theorem cells_plan : Tryz.prog.cellsOf TPL3 = 7 := by kernel_rfl
theorem cells_plans : Tryz.prog.cellsOf TPS3 = 1 := by kernel_rfl
theorem cells_case13 : Tryz.prog.cellsOf TCA13 = 8 := by kernel_rfl
theorem cells_world : Tryz.prog.cellsOf TRW3 = 5 := by kernel_rfl
theorem bytes_int : Tryz.prog.bytesOf 3 = 8 := by kernel_rfl
theorem bytes_bool : Tryz.prog.bytesOf 4 = 1 := by kernel_rfl
theorem bytes_row : Tryz.prog.bytesOf 23 = 24 := by kernel_rfl
theorem bytes_plan : Tryz.prog.bytesOf TPL3 = 104 := by kernel_rfl

section
variable {H : Type} {enc : TypeId × Value → H} {W : World} {held : Bool}
abbrev Small (t : TypeId) (d : DataW H) : Prop := ∀ m ∈ d.weights Tryz.prog t, m ≤ 140737488351232
theorem open_ints_C {fuel : Nat} {c : Value} {x : DataW H × List MemPlace} (h : DataW.trod enc Tryz.prog W 0 (fun _ => true) held fuel 23 [c] = some x) (hs : Small 23 x.1) :
    ∃ A k xs, c = .slice A (List.length xs) k ∧ xs.length ≤ k ∧ KInt.C W A xs.length xs ∧ xs.length * 8 ≤ 140737488351232 := by
  rcases open_ints Tryz.underlying23 Tryz.underlying3 cells_int h with ⟨hcs, _⟩ | ⟨a, len, cap, zs, hcs, _, hl, hm, hz, hx, hcell, _⟩
  · exact ⟨none, 0, [], by simpa using hcs, by simp, Kd.C_nil _ _, by simp⟩
  · simp only [if_true] at hz
    subst hx
    have hw := hs ((( lits (H := H) .i64 (zs.take len)).length + (lits (H := H) .i64 (zs.drop len)).length) * Tryz.prog.bytesOf 3) (by
      simp only [DataW.weights, Tryz.underlying23]
      exact List.mem_cons_self)
    rw [bytes_int] at hw
    have hll : (lits (H := H) .i64 (zs.take len)).length + (lits (H := H) .i64 (zs.drop len)).length = zs.length := by simp [lits]; omega
    rw [hll, hz] at hw
    have hlt : (zs.take len).length = len := by simp; omega
    refine ⟨some a, cap, zs.take len, by rw [hlt]; simpa using hcs, by omega, ⟨rfl, by simp only [maxLen] at hm; omega, fun _ => ⟨a, rfl, fun j p hp => ⟨[.int .i64 p], rfl, rfl, fun i u hu => ?_⟩⟩⟩, by omega⟩
    cases i with
    | zero =>
      simp only [List.getElem?_cons_zero, Option.some.injEq] at hu
      subst hu
      have hj := (List.getElem?_eq_some_iff.1 hp).1
      have hc := hcell j (by omega)
      have he : j * KInt.sz + 0 = j := by show j * 1 + 0 = j; omega
      rw [he, hc]
      rw [List.getElem?_take] at hp
      split at hp
      · simp [List.getD_eq_getElem?_getD, hp]
      · cases hp
    | succ i => simp at hu
theorem open_bools_C {fuel : Nat} {c : Value} {x : DataW H × List MemPlace} (h : DataW.trod enc Tryz.prog W 0 (fun _ => true) held fuel 24 [c] = some x) (hs : Small 24 x.1) :
    ∃ A k xs, c = .slice A (List.length xs) k ∧ xs.length ≤ k ∧ Kd.bool.C W A xs.length xs ∧ xs.length ≤ 140737488351232 := by
  rcases Go.Deep.open_slice1 Tryz.underlying24 cells_bool h with ⟨hcs, _⟩ | ⟨a, len, cap, m, n, V, D, Pl, hcs, _, hl, hm, hmm, hx, hV⟩
  · exact ⟨none, 0, [], by simpa using hcs, by simp, Kd.C_nil _ _, by simp⟩
  · simp only [if_true] at hmm
    subst hx
    have hw := hs ((((List.range len).map D).length + ((List.range (m - len)).map fun j => D (len + j)).length) * Tryz.prog.bytesOf 4) (by
      simp only [DataW.weights, Tryz.underlying24]
      exact List.mem_cons_self)
    rw [bytes_bool] at hw
    simp only [List.length_map, List.length_range] at hw
    obtain ⟨B, hB⟩ := Go.Deep.choose_lt (n := m) (p := fun i (b : Bool) => V i = .bool b) (fun i hi => by
      obtain ⟨b, hb, _⟩ := DataW.trod_bool Tryz.underlying4 (hV i hi).2
      exact ⟨b, by simpa using hb⟩)
    refine ⟨some a, cap, (List.range len).map B, by simpa using hcs, by simpa using hl, ⟨rfl, by simp only [maxLen] at hm; simp; omega, fun _ => ⟨a, rfl, fun j p hp => ⟨[.bool p], rfl, rfl, fun i u hu => ?_⟩⟩⟩, by simp; omega⟩
    cases i with
    | zero =>
      simp only [List.getElem?_cons_zero, Option.some.injEq] at hu
      subst hu
      have hj := (List.getElem?_eq_some_iff.1 hp).1
      simp only [List.length_map, List.length_range] at hj
      have he : j * Kd.bool.sz + 0 = j := by show j * 1 + 0 = j; omega
      rw [he, (hV j (by omega)).1, hB j (by omega)]
      simp [hj] at hp
      rw [hp]
    | succ i => simp at hu
theorem weights_all {P : Program} {e : TypeId} {d : DataW H} : ∀ {l : List (DataW H)}, d ∈ l → ∀ m ∈ d.weights P e, m ∈ DataW.weightsAll P e l
  | x :: l, h, m, hm => by
    simp only [DataW.weightsAll, List.mem_append]
    rcases List.mem_cons.1 h with rfl | h
    · exact .inl hm
    · exact .inr (weights_all h m hm)
theorem open_rows_C {fuel : Nat} {c : Value} {x : DataW H × List MemPlace} (h : DataW.trod enc Tryz.prog W 0 (fun _ => true) held fuel 22 [c] = some x) (hs : Small 22 x.1) :
    ∃ A k rows, c = .slice A (List.length rows) k ∧ rows.length ≤ k ∧ KRow.C W A rows.length rows ∧ rows.length < 1000000000000000 ∧ ∀ r ∈ rows, r.length < 1000000000000000 := by
  rcases Go.Deep.open_slice1 Tryz.underlying22 cells_row h with ⟨hcs, _⟩ | ⟨a, len, cap, m, n, V, D, Pl, hcs, _, hl, hm, hmm, hx, hV⟩
  · exact ⟨none, 0, [], by simpa using hcs, by simp, Kd.C_nil _ _, by simp, by simp⟩
  · simp only [if_true] at hmm
    subst hx
    have hw := hs ((((List.range len).map D).length + ((List.range (m - len)).map fun j => D (len + j)).length) * Tryz.prog.bytesOf 23) (by
      simp only [DataW.weights, Tryz.underlying22]
      exact List.mem_cons_self)
    rw [bytes_row] at hw
    simp only [List.length_map, List.length_range] at hw
    obtain ⟨F, hF⟩ := Go.Deep.choose_lt (n := len) (p := fun i (y : Option Addr × Nat × List Int) => V i = .slice y.1 y.2.2.length y.2.1 ∧ y.2.2.length ≤ y.2.1 ∧ KInt.C W y.1 y.2.2.length y.2.2 ∧ y.2.2.length < 1000000000000000) (fun i hi => by
      obtain ⟨A, k, xs, h1, h2, h3, h4⟩ := open_ints_C (hV i (by omega)).2 (fun q hq => hs q (by
        simp only [DataW.weights, Tryz.underlying22]
        refine List.mem_cons_of_mem _ (List.mem_append_left _ (weights_all (d := D i) ?_ q hq))
        exact List.mem_map.2 ⟨i, List.mem_range.2 hi, rfl⟩))
      exact ⟨(A, k, xs), h1, h2, h3, by show xs.length < _; omega⟩)
    refine ⟨some a, cap, (List.range len).map fun i => (F i).2.2, by simpa using hcs, by simpa using hl, ⟨rfl, by simp only [maxLen] at hm; simp; omega, fun _ => ⟨a, rfl, fun j p hp => ?_⟩⟩, by simp; omega, fun r hr => ?_⟩
    · have hj := (List.getElem?_eq_some_iff.1 hp).1
      simp only [List.length_map, List.length_range] at hj
      obtain ⟨f1, f2, f3, f4⟩ := hF j hj
      have hpe : (F j).2.2 = p := by simpa [hj] using hp
      subst hpe
      refine ⟨[V j], rfl, ⟨(F j).1, (F j).2.1, by rw [f1], f2, f3⟩, fun i u hu => ?_⟩
      cases i with
      | zero =>
        simp only [List.getElem?_cons_zero, Option.some.injEq] at hu
        subst hu
        have he : j * KRow.sz + 0 = j := by show j * 1 + 0 = j; omega
        rw [he]
        exact (hV j (by omega)).1
      | succ i => simp at hu
    · obtain ⟨i, hi, rfl⟩ := List.mem_map.1 hr
      exact (hF i (List.mem_range.1 hi)).2.2.2
theorem small_part {t : TypeId} {fs : Array Field} {xs : List (DataW H × List MemPlace)} (ht : Tryz.prog.underlying t = some (.struct fs)) (hs : Small t (DataW.agg (xs.map (·.1)))) {i : Nat} {f : Field} {y : DataW H × List MemPlace} (hf : fs[i]? = some f) (hy : xs[i]? = some y) : Small f.type y.1 := fun m hm => hs m (by
  simp only [DataW.weights, ht]
  exact DataW.weights_mem_each (j := i) (t := f.type) (d := y.1) (by simp [hf]) (by simp [hy]) m hm)
instance : Inhabited PlanD := ⟨⟨[], [], [], 0, 0, 0, 0⟩⟩
instance : Inhabited PX := ⟨⟨default, none, 0, none, 0, none, 0⟩⟩
set_option maxRecDepth 100000 in
theorem open_plan_C {fuel : Nat} {cs : List Value} {x : DataW H × List MemPlace} (h : DataW.trod enc Tryz.prog W 0 (fun _ => true) held fuel TPL3 cs = some x) (hs : Small TPL3 x.1) :
    ∃ y : PX, cs = y.cells ∧ y.Reads W ∧ y.p.V.length < 100000000000000 := by
  obtain ⟨xs, n', _, rfl, hlen, hxl, hf⟩ := DataW.trod_struct Tryz.underlying38 h
  rw [cells_plan] at hlen
  have hx7 : xs.length = 7 := hxl
  match cs, hlen, xs, hx7 with
  | [c0, c1, c2, c3, c4, c5, c6], _, [y0, y1, y2, y3, y4, y5, y6], _ =>
    have g0 : DataW.trod enc Tryz.prog W 0 (fun _ => true) held n' 23 [c0] = some y0 := by simpa [cells_row] using hf 0 _ rfl
    have g1 : DataW.trod enc Tryz.prog W 0 (fun _ => true) held n' 23 [c1] = some y1 := by simpa [cells_row] using hf 1 _ rfl
    have g2 : DataW.trod enc Tryz.prog W 0 (fun _ => true) held n' 24 [c2] = some y2 := by simpa [cells_bools] using hf 2 _ rfl
    have g3 : DataW.trod enc Tryz.prog W 0 (fun _ => true) held n' 3 [c3] = some y3 := by simpa [cells_int] using hf 3 _ rfl
    have g4 : DataW.trod enc Tryz.prog W 0 (fun _ => true) held n' 3 [c4] = some y4 := by simpa [cells_int] using hf 4 _ rfl
    have g5 : DataW.trod enc Tryz.prog W 0 (fun _ => true) held n' 3 [c5] = some y5 := by simpa [cells_int] using hf 5 _ rfl
    have g6 : DataW.trod enc Tryz.prog W 0 (fun _ => true) held n' 3 [c6] = some y6 := by simpa [cells_int] using hf 6 _ rfl
    have s0 := small_part Tryz.underlying38 hs (i := 0) rfl rfl
    have s1 := small_part Tryz.underlying38 hs (i := 1) rfl rfl
    have s2 := small_part Tryz.underlying38 hs (i := 2) rfl rfl
    obtain ⟨A0, k0, x0, rfl, l0, r0, b0⟩ := open_ints_C g0 s0
    obtain ⟨A1, k1, x1, rfl, l1, r1, b1⟩ := open_ints_C g1 s1
    obtain ⟨A2, k2, x2, rfl, l2, r2, b2⟩ := open_bools_C g2 s2
    obtain ⟨z3, e3, _⟩ := DataW.trod_int Tryz.underlying3 g3
    obtain ⟨z4, e4, _⟩ := DataW.trod_int Tryz.underlying3 g4
    obtain ⟨z5, e5, _⟩ := DataW.trod_int Tryz.underlying3 g5
    obtain ⟨z6, e6, _⟩ := DataW.trod_int Tryz.underlying3 g6
    simp only [List.cons.injEq, and_true] at e3 e4 e5 e6
    subst e3 e4 e5 e6
    exact ⟨⟨⟨x0, x1, x2, z3, z4, z5, z6⟩, A0, k0, A1, k1, A2, k2⟩, rfl, ⟨r0, l0, r1, l1, r2, l2⟩, by show x0.length < _; omega⟩
set_option maxRecDepth 100000 in
theorem open_plans_C {fuel : Nat} {c : Value} {x : DataW H × List MemPlace} (h : DataW.trod enc Tryz.prog W 0 (fun _ => true) held fuel TPS3 [c] = some x) (hs : Small TPS3 x.1) :
    ∃ A k l, c = .slice A (List.length l) k ∧ l.length ≤ k ∧ PlansAt W A l ∧ l.length ≤ 1353245080300 ∧ ∀ x ∈ l, x.p.V.length < 100000000000000 := by
  rcases Go.Deep.open_slice Tryz.underlying27 h with ⟨hcs, _⟩ | ⟨a, len, cap, m, n, D, Pl, hcs, _, hl, hm, hmm, hx, hV⟩
  · exact ⟨none, 0, [], by simpa using hcs, by simp, ⟨fun hl => by simp at hl, by simp⟩, by simp, by simp⟩
  · simp only [if_true] at hmm
    subst hx
    have hw := hs ((((List.range len).map D).length + ((List.range (m - len)).map fun j => D (len + j)).length) * Tryz.prog.bytesOf TPL3) (by
      simp only [DataW.weights, Tryz.underlying27]
      exact List.mem_cons_self)
    rw [bytes_plan] at hw
    simp only [List.length_map, List.length_range] at hw
    obtain ⟨F, hF⟩ := Go.Deep.choose_lt (α := PX) (n := len) (p := fun i (y : PX) => (∀ (q : Nat) u, y.cells[q]? = some u → W.cell? (a.add (i * 7 + q)) = some u) ∧ y.Reads W ∧ y.p.V.length < 100000000000000) (fun i hi => by
      obtain ⟨cs', h1, h2⟩ := hV i (by omega)
      rw [cells_plan] at h1
      obtain ⟨_, hlen, hcell⟩ := World.cells?_some h1
      obtain ⟨y, rfl, hr, hb⟩ := open_plan_C h2 (fun q hq => hs q (by
        simp only [DataW.weights, Tryz.underlying27]
        refine List.mem_cons_of_mem _ (List.mem_append_left _ (weights_all (d := D i) ?_ q hq))
        exact List.mem_map.2 ⟨i, List.mem_range.2 hi, rfl⟩))
      refine ⟨y, fun q u hu => ?_, hr, hb⟩
      have hq : q < 7 := (List.getElem?_eq_some_iff.1 hu).1
      have := hcell q hq
      rw [Go.Deep.add_add] at this
      rw [this]
      exact hu)
    refine ⟨some a, cap, (List.range len).map F, by simpa using hcs, by simpa using hl, ⟨fun hl0 => ?_, fun x hx => ?_⟩, by simp; omega, fun x hx => ?_⟩
    · have hlen : 0 < len := by simpa using hl0
      obtain ⟨b, o, spot⟩ := a
      have h00 := (hF 0 hlen).1 0 _ rfl
      have hspot : spot = none := by simpa [Addr.add] using World.cell?_spot h00
      subst hspot
      refine ⟨b, o, rfl, fun j x hx i u hu => ?_⟩
      have hj := (List.getElem?_eq_some_iff.1 hx).1
      simp only [List.length_map, List.length_range] at hj
      have hxe : F j = x := by simpa [hj] using hx
      subst hxe
      have := (hF j hj).1 i u hu
      rw [Addr.add_lit] at this
      rwa [show o + j * 7 + i = o + (j * 7 + i) by omega]
    · obtain ⟨i, hi, rfl⟩ := List.mem_map.1 hx
      exact (hF i (List.mem_range.1 hi)).2.1
    · obtain ⟨i, hi, rfl⟩ := List.mem_map.1 hx
      exact (hF i (List.mem_range.1 hi)).2.2
set_option maxRecDepth 100000 in
theorem open_world_C {fuel : Nat} {cs : List Value} {x : DataW H × List MemPlace} (h : DataW.trod enc Tryz.prog W 0 (fun _ => true) held fuel TRW3 cs = some x) (hs : Small TRW3 x.1) :
    ∃ (v : WV) (d : WD), cs = v.cells d ∧ v.Reads W d ∧ d.fields.length < 1000000000000000 ∧ d.states.length < 1000000000000000 ∧ ∀ r ∈ d.fields, r.length < 1000000000000000 := by
  obtain ⟨xs, n', _, rfl, hlen, hxl, hf⟩ := DataW.trod_struct Tryz.underlying26 h
  rw [cells_world] at hlen
  have hx5 : xs.length = 5 := hxl
  match cs, hlen, xs, hx5 with
  | [c0, c1, c2, c3, c4], _, [y0, y1, y2, y3, y4], _ =>
    have g0 : DataW.trod enc Tryz.prog W 0 (fun _ => true) held n' 22 [c0] = some y0 := by simpa [cells_rows] using hf 0 _ rfl
    have g1 : DataW.trod enc Tryz.prog W 0 (fun _ => true) held n' 23 [c1] = some y1 := by simpa [cells_row] using hf 1 _ rfl
    have g2 : DataW.trod enc Tryz.prog W 0 (fun _ => true) held n' 24 [c2] = some y2 := by simpa [cells_bools] using hf 2 _ rfl
    have g3 : DataW.trod enc Tryz.prog W 0 (fun _ => true) held n' 23 [c3] = some y3 := by simpa [cells_row] using hf 3 _ rfl
    have g4 : DataW.trod enc Tryz.prog W 0 (fun _ => true) held n' 24 [c4] = some y4 := by simpa [cells_bools] using hf 4 _ rfl
    have s0 := small_part Tryz.underlying26 hs (i := 0) rfl rfl
    have s1 := small_part Tryz.underlying26 hs (i := 1) rfl rfl
    have s2 := small_part Tryz.underlying26 hs (i := 2) rfl rfl
    have s3 := small_part Tryz.underlying26 hs (i := 3) rfl rfl
    have s4 := small_part Tryz.underlying26 hs (i := 4) rfl rfl
    obtain ⟨A0, k0, x0, rfl, l0, r0, b0, b0'⟩ := open_rows_C g0 s0
    obtain ⟨A1, k1, x1, rfl, l1, r1, b1⟩ := open_ints_C g1 s1
    obtain ⟨A2, k2, x2, rfl, l2, r2, b2⟩ := open_bools_C g2 s2
    obtain ⟨A3, k3, x3, rfl, l3, r3, b3⟩ := open_ints_C g3 s3
    obtain ⟨A4, k4, x4, rfl, l4, r4, b4⟩ := open_bools_C g4 s4
    exact ⟨⟨A0, k0, A1, k1, A2, k2, A3, k3, A4, k4⟩, ⟨x0, x1, x2, x3, x4⟩, rfl, ⟨r0, l0, r1, l1, r2, l2, r3, l3, r4, l4⟩, b0, by show x3.length < _; omega, b0'⟩
set_option maxRecDepth 100000 in
theorem open_case13 {r : Reach} {b0 : Nat} {v : Value} {d : DataW H} {p : List MemPlace} (hv : Value.okWide Tryz.prog W r b0 TCA13 v) (h : DataW.Trod enc Tryz.prog W 0 (fun _ => true) held TCA13 v d p) (hs : Small TCA13 d) :
    ∃ (vv : WV) (dd : WD) (A : Option Addr) (c : Nat) (l : List PX) (As Ap : Option Addr) (ns cs np cp : Nat), v = .agg #[.slice vv.A0 dd.fields.length vv.c0, .slice vv.A1 dd.infos.length vv.c1, .slice vv.A2 dd.marks.length vv.c2, .slice vv.A3 dd.states.length vv.c3, .slice vv.A4 dd.frozen.length vv.c4, .slice A l.length c, .slice As ns cs, .slice Ap np cp] ∧
      vv.Reads W dd ∧ PlansAt W A l ∧ dd.fields.length < 1000000000000000 ∧ dd.states.length < 1000000000000000 ∧ (∀ r ∈ dd.fields, r.length < 1000000000000000) ∧ l.length ≤ 1353245080300 ∧ ∀ x ∈ l, x.p.V.length < 100000000000000 := by
  obtain ⟨cs, rfl, hsz⟩ := okWide_struct Tryz.underlying29 hv
  rw [cells_case13] at hsz
  obtain ⟨fuel, hf0⟩ := h
  obtain ⟨xs, n', _, hx, hlen, hxl, hf⟩ := DataW.trod_struct Tryz.underlying29 hf0
  simp only [Prod.mk.injEq] at hx
  obtain ⟨hx1, hx2⟩ := hx
  subst hx1
  obtain ⟨cs⟩ := cs
  have hx4 : xs.length = 4 := hxl
  have hc8 : cs.length = 8 := by simpa using hsz
  match cs, hc8, xs, hx4 with
  | [c0, c1, c2, c3, c4, c5, c6, c7], _, [y0, y1, y2, y3], _ =>
    have g0 : DataW.trod enc Tryz.prog W 0 (fun _ => true) held n' TRW3 [c0, c1, c2, c3, c4] = some y0 := by simpa [cells_world, Value.cells] using hf 0 _ rfl
    have g1 : DataW.trod enc Tryz.prog W 0 (fun _ => true) held n' TPS3 [c5] = some y1 := by simpa [cells_plans, Value.cells] using hf 1 _ rfl
    have g2 : DataW.trod enc Tryz.prog W 0 (fun _ => true) held n' 22 [c6] = some y2 := by simpa [cells_rows, Value.cells] using hf 2 _ rfl
    have g3 : DataW.trod enc Tryz.prog W 0 (fun _ => true) held n' 23 [c7] = some y3 := by simpa [cells_row, Value.cells] using hf 3 _ rfl
    have s0 := small_part Tryz.underlying29 hs (i := 0) rfl rfl
    have s1 := small_part Tryz.underlying29 hs (i := 1) rfl rfl
    have s2 := small_part Tryz.underlying29 hs (i := 2) rfl rfl
    have s3 := small_part Tryz.underlying29 hs (i := 3) rfl rfl
    obtain ⟨vv, dd, e0, r0, b0, b1, b2⟩ := open_world_C g0 s0
    obtain ⟨A, c, l, rfl, hlc, ha, hl, hb⟩ := open_plans_C g1 s1
    obtain ⟨As, cs, ls, rfl, _⟩ := open_rows_C g2 s2
    obtain ⟨Ap, cp, lp, rfl, _⟩ := open_ints_C g3 s3
    simp only [WV.cells, List.cons.injEq, and_true] at e0
    obtain ⟨rfl, rfl, rfl, rfl, rfl⟩ := e0
    exact ⟨vv, dd, A, c, l, As, Ap, ls.length, cs, lp.length, cp, rfl, r0, ha, b0, b1, b2, hl, hb⟩
end
end Go.Proofs.YtphhdmopfmelbaaGreat

/- Records of texts, by numbers (Made's Stage once more). Printed by p_mades.py. -/
namespace Go.Proofs.YtphhdmopfmelbaaGreat
open Go.RowKit Go.Proofs.YtphhdmopfmelbaaGreatW.PrintWords
set_option linter.unusedVariables false
set_option linter.unusedSimpArgs false

def strB : ByteArray := { data := #[114] }
abbrev strR : Value := .string { data := #[114] }
/-- What stands in memory, by numbers: of record i the fields F i, the info I i, the mark M i; of SCX-record i what P i tells. -/
structure StageS (w : World) (B : Nat) (R : Nat → Option RecO) (X : Nat → Option ScxO) (rs fs xs : List Nat) (F : Nat → List (Option Nat)) (I : Nat → Option Nat) (M : Nat → Bool) (P : Nat → ScxO → Prop) : Prop where
  rep : Repstring w R X
  ndr : rs.Nodup
  ndx : (fs ++ xs).Nodup
  len : fs.length = rs.length
  r : ∀ (i b : Nat), rs[i]? = some b → ∃ fb, R b = some ⟨[strR], fb, F i, I i, M i⟩ ∧ B ≤ fb
  x : ∀ (i b : Nat), xs[i]? = some b → ∃ s, X b = some s ∧ P i s
  f : ∀ b, b ∈ fs → (X b).isSome
  lo : ∀ b, b ∈ rs ++ (fs ++ xs) → B ≤ b

section
variable {w w' : World} {B B' : Nat} {R : Nat → Option RecO} {X : Nat → Option ScxO} {rs fs xs : List Nat} {F : Nat → List (Option Nat)} {I : Nat → Option Nat} {M : Nat → Bool} {P : Nat → ScxO → Prop}
theorem StageS.rep' (h : StageS w B R X rs fs xs F I M P) (hr : Repstring w' R X) : StageS w' B R X rs fs xs F I M P := ⟨hr, h.ndr, h.ndx, h.len, h.r, h.x, h.f, h.lo⟩
theorem StageS.below (h : StageS w B R X rs fs xs F I M P) (hb : Below w.heap.size w w') : StageS w' B R X rs fs xs F I M P := h.rep' (h.rep.below hb)
theorem StageS.cong (h : StageS w B R X rs fs xs F I M P) {F' : Nat → List (Option Nat)} {I' : Nat → Option Nat} {M' : Nat → Bool} {P' : Nat → ScxO → Prop} (h1 : ∀ i, i < rs.length → F i = F' i) (h2 : ∀ i, i < rs.length → I i = I' i) (h3 : ∀ i, i < rs.length → M i = M' i) (h4 : ∀ i s, i < xs.length → P i s → P' i s) :
    StageS w B R X rs fs xs F' I' M' P' :=
  ⟨h.rep, h.ndr, h.ndx, h.len, fun i b hb => by
    have hl := (List.getElem?_eq_some_iff.1 hb).1
    rw [← h1 i hl, ← h2 i hl, ← h3 i hl]; exact h.r i b hb, fun i b hb => by
    obtain ⟨s, hs, hp⟩ := h.x i b hb
    exact ⟨s, hs, h4 i s (List.getElem?_eq_some_iff.1 hb).1 hp⟩, h.f, h.lo⟩
theorem StageS.okR (h : StageS w B R X rs fs xs F I M P) (n : Int) : Ok R (rp rs n) := fun b e => by
  unfold rp at e
  split at e
  · cases e
  · obtain ⟨fb, hfb, _⟩ := h.r _ b e
    simp [hfb]
theorem StageS.okX (h : StageS w B R X rs fs xs F I M P) (n : Nat) : Ok X xs[n]? := fun b e => by
  obtain ⟨s, hs, _⟩ := h.x n b e
  simp [hs]
theorem StageS.okF (h : StageS w B R X rs fs xs F I M P) (n : Nat) : Ok X fs[n]? := fun b e => h.f b (List.mem_of_getElem? e)
/-- A new record. -/
theorem StageS.addRec (h : StageS w B R X rs fs xs F I M P) (hbelow : Below w.heap.size w w') {b fb xb : Nat} {ps : List (Option Nat)} (hb : w.heap.size ≤ b) (hfb : w.heap.size ≤ fb) (hxb : w.heap.size ≤ xb) (hB : B ≤ w.heap.size)
    (hrep : Repstring w' (upd R b ⟨[strR], fb, ps, some xb, false⟩) (upd X xb firstO)) (hF : F rs.length = ps) (hI : I rs.length = some xb) (hM : M rs.length = false) :
    StageS w' B (upd R b ⟨[strR], fb, ps, some xb, false⟩) (upd X xb firstO) (rs ++ [b]) (fs ++ [xb]) xs F I M P := by
  have hr1 : ∀ c ∈ rs, c < w.heap.size := fun c hc => by
    obtain ⟨i, hi⟩ := List.getElem?_of_mem hc
    obtain ⟨_, hfb, _⟩ := h.r i c hi
    exact (h.rep.recs _ _ hfb).1.lt
  have hx1 : ∀ c, (X c).isSome → c < w.heap.size := fun c hc => by
    obtain ⟨s, hs⟩ := Option.isSome_iff_exists.1 hc
    exact (h.rep.scx _ _ hs).lt
  have hx2 : ∀ c ∈ fs ++ xs, c < w.heap.size := fun c hc => by
    rcases List.mem_append.1 hc with hc | hc
    · exact hx1 c (h.f c hc)
    · obtain ⟨i, hi⟩ := List.getElem?_of_mem hc
      obtain ⟨s, hs, _⟩ := h.x i c hi
      exact (h.rep.scx _ _ hs).lt
  refine ⟨hrep, ?_, ?_, by simp [h.len], fun i c hc => ?_, fun i c hc => ?_, fun c hc => ?_, fun c hc => ?_⟩
  · rw [List.nodup_append]
    exact ⟨h.ndr, by simp, fun a ha c hc => by simp at hc; have := hr1 a ha; omega⟩
  · have hp : ((fs ++ xs) ++ [xb]).Nodup := by
      rw [List.nodup_append]
      exact ⟨h.ndx, by simp, fun a ha c hc => by simp at hc; have := hx2 a ha; omega⟩
    have : ((fs ++ [xb]) ++ xs).Perm ((fs ++ xs) ++ [xb]) := by
      rw [List.append_assoc, List.append_assoc]
      exact List.Perm.append_left fs List.perm_append_comm
    exact this.nodup_iff.2 hp
  · rcases get_append_one hc with hc | ⟨rfl, rfl⟩
    · obtain ⟨fb', h1, h2⟩ := h.r i c hc
      refine ⟨fb', ?_, h2⟩
      rw [upd_ne _ _ (by have := hr1 c (List.mem_of_getElem? hc); omega)]
      exact h1
    · rw [hF, hI, hM]
      exact ⟨fb, upd_self _ _ _, by omega⟩
  · obtain ⟨s, hs, hp⟩ := h.x i c hc
    exact ⟨s, by rw [upd_ne _ _ (by have := (h.rep.scx _ _ hs).lt; omega)]; exact hs, hp⟩
  · rcases List.mem_append.1 hc with hc | hc
    · rw [upd_ne _ _ (by have := hx1 c (h.f c hc); omega)]; exact h.f c hc
    · simp at hc; subst hc; simp [upd]
  · simp only [List.mem_append, List.mem_singleton] at hc
    rcases hc with (hc | hc) | (hc | hc) | hc
    · exact h.lo c (by simp [hc])
    · omega
    · exact h.lo c (by simp [hc])
    · omega
    · exact h.lo c (by simp [hc])
/-- A new SCX-record. -/
theorem StageS.addScx (h : StageS w B R X rs fs xs F I M P) (hbelow : Below w.heap.size w w') {b : Nat} {s : ScxO} (hb : w.heap.size ≤ b) (hB : B ≤ w.heap.size) (hrep : Repstring w' R (upd X b s)) (hP : P xs.length s) :
    StageS w' B R (upd X b s) rs fs (xs ++ [b]) F I M P := by
  have hx1 : ∀ c, (X c).isSome → c < w.heap.size := fun c hc => by
    obtain ⟨s, hs⟩ := Option.isSome_iff_exists.1 hc
    exact (h.rep.scx _ _ hs).lt
  have hx2 : ∀ c ∈ fs ++ xs, c < w.heap.size := fun c hc => by
    rcases List.mem_append.1 hc with hc | hc
    · exact hx1 c (h.f c hc)
    · obtain ⟨i, hi⟩ := List.getElem?_of_mem hc
      obtain ⟨s, hs, _⟩ := h.x i c hi
      exact (h.rep.scx _ _ hs).lt
  refine ⟨hrep, h.ndr, ?_, h.len, h.r, fun i c hc => ?_, fun c hc => ?_, fun c hc => ?_⟩
  · rw [← List.append_assoc, List.nodup_append]
    exact ⟨h.ndx, by simp, fun a ha c hc => by simp at hc; have := hx2 a ha; omega⟩
  · rcases get_append_one hc with hc | ⟨rfl, rfl⟩
    · obtain ⟨s', hs, hp⟩ := h.x i c hc
      exact ⟨s', by rw [upd_ne _ _ (by have := (h.rep.scx _ _ hs).lt; omega)]; exact hs, hp⟩
    · exact ⟨s, upd_self _ _ _, hP⟩
  · rw [upd_ne _ _ (by have := hx1 c (h.f c hc); omega)]; exact h.f c hc
  · simp only [List.mem_append, List.mem_singleton] at hc
    rcases hc with hc | hc | hc | hc
    · exact h.lo c (by simp [hc])
    · exact h.lo c (by simp [hc])
    · exact h.lo c (by simp [hc])
    · omega
/-- Record i has turned. -/
theorem StageS.setRec (h : StageS w B R X rs fs xs F I M P) {i b fb : Nat} (hi : rs[i]? = some b) (ho : R b = some ⟨[strR], fb, F i, I i, M i⟩) {fl : List (Option Nat)} {inf : Option Nat} {mk : Bool}
    (hrep : Repstring w' (upd R b ⟨[strR], fb, fl, inf, mk⟩) X) :
    StageS w' B (upd R b ⟨[strR], fb, fl, inf, mk⟩) X rs fs xs (fun k => if k = i then fl else F k) (fun k => if k = i then inf else I k) (fun k => if k = i then mk else M k) P := by
  refine ⟨hrep, h.ndr, h.ndx, h.len, fun k c hc => ?_, h.x, h.f, h.lo⟩
  by_cases e : k = i
  · subst e
    have : c = b := by rw [hi] at hc; exact (Option.some.inj hc).symm
    subst this
    obtain ⟨fb', h1, h2⟩ := h.r k c hi
    rw [ho] at h1
    have : fb = fb' := by simpa using congrArg RecO.fb (Option.some.inj h1)
    subst this
    exact ⟨fb, by simp [upd], h2⟩
  · obtain ⟨fb', h1, h2⟩ := h.r k c hc
    refine ⟨fb', ?_, h2⟩
    have : c ≠ b := fun e2 => by subst e2; exact e (nodup_get h.ndr hc hi)
    rw [upd_ne _ _ this]
    simp [e, h1]
/-- SCX-record i has turned. -/
theorem StageS.setScx (h : StageS w B R X rs fs xs F I M P) {i b : Nat} (hi : xs[i]? = some b) {s : ScxO} (hrep : Repstring w' R (upd X b s)) {P' : Nat → ScxO → Prop} (hP : P' i s) (hP' : ∀ k s, k ≠ i → P k s → P' k s) :
    StageS w' B R (upd X b s) rs fs xs F I M P' := by
  have hnd := List.nodup_append.1 h.ndx
  refine ⟨hrep, h.ndr, h.ndx, h.len, h.r, fun k c hc => ?_, fun c hc => ?_, h.lo⟩
  · by_cases e : k = i
    · subst e
      have : c = b := by rw [hi] at hc; exact (Option.some.inj hc).symm
      subst this
      exact ⟨s, upd_self _ _ _, hP⟩
    · obtain ⟨s', h1, h2⟩ := h.x k c hc
      refine ⟨s', ?_, hP' k s' e h2⟩
      rw [upd_ne _ _ (fun e2 => by subst e2; exact e (nodup_get hnd.2.1 hc hi))]
      exact h1
  · have := h.f c hc
    unfold upd
    split <;> simp_all
end
end Go.Proofs.YtphhdmopfmelbaaGreat
