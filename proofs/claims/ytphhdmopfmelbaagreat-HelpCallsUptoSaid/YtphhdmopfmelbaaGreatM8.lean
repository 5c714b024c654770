/- Joined texts: Ref13V Ref13W Ref13F Ref13G Grow. -/
import Derived.Test.YtphhdmopfmelbaaGreatM1
import Derived.Test.YtphhdmopfmelbaaGreatM5
import Derived.Test.YtphhdmopfmelbaaGreatM7
import Derived.StillTailTactics
import Derived.Test.YtphhdmopfmelbaaGreatWInvWords
import Derived.Lib.Hide
import Derived.ArgAppend
import Derived.Deep.Upon

/- larchref13: Step, line by line. Written by p_step.py. -/
namespace Go.Proofs.YtphhdmopfmelbaaGreat
open Go.RowKit Go.Proofs.YtphhdmopfmelbaaGreatW.PrintWords
set_option linter.unusedVariables false
set_option linter.unusedSimpArgs false


set_option maxHeartbeats 4000000 in
set_option maxRecDepth 100000 in
theorem ref13_Step7 (wb w : World) (bw hb : Nat) (d : WD) (x : PX) (fv iv mv sv zv : Value) (us : List Value) (scx : Int) (i : Nat) (hx : x.Reads wb) (h : StAt wb w w bw hb d fv iv mv sv zv us scx ⟨7, i⟩) (ok : StOk d x.p scx ⟨7, i⟩) :
    Calls Tryz.prog 44 #[.pointer (some ⟨bw, 0, none⟩), .pointer (some ⟨hb, 0, none⟩), x.val] w (StepPost wb w bw hb d x.p fv iv mv sv zv us scx ⟨7, i⟩) := by
  obtain ⟨p, B0, k0, B1, k1, B2, k2⟩ := x
  refine calls_hide fun Q HQ => ?_
  have HQ' := Lib.hid HQ
  have HX := Lib.hid hx
  have OK := Lib.hid (show StOk d p scx _ from ok)
  have hbx := (Below.refl w.heap.size w).alloc (Nat.le_refl _) (.cells #[.slice B0 p.V.length k0, .slice B1 p.infos.length k1, .slice B2 p.fin.length k2, .int .i64 p.at_, .int .i64 p.fld, .int .i64 p.old, .int .i64 p.new] 38)
  have HS0 := Lib.hid (h.more hbx)
  have hpb := Blk.new w 38 [.slice B0 p.V.length k0, .slice B1 p.infos.length k1, .slice B2 p.fin.length k2, .int .i64 p.at_, .int .i64 p.fld, .int .i64 p.old, .int .i64 p.new]
  have HPB := Lib.hid hpb
  have hlt0 := h.hlp.lt
  have hlt1 := h.box.lt
  have HNE := Lib.hid (show ¬ w.heap.size = hb ∧ ¬ w.heap.size = bw by constructor <;> omega)
  clear HQ hx h ok hpb hbx hlt0 hlt1
  go_enter Tryz.func44, Tryz.ntmps44
  have g0 := HPB.out.cell 0
  have g1 := HPB.out.cell 1
  have g2 := HPB.out.cell 2
  have g3 := HPB.out.cell 3
  have g4 := HPB.out.cell 4
  have g5 := HPB.out.cell 5
  have g6 := HPB.out.cell 6
  have h0 := HS0.out.hlp.cell 0
  have h1 := HS0.out.hlp.cell 1
  have h2 := HS0.out.hlp.cell 2
  have b0 := HS0.out.box.cell 0
  have b1 := HS0.out.box.cell 1
  have b2 := HS0.out.box.cell 2
  have b3 := HS0.out.box.cell 3
  have b4 := HS0.out.box.cell 4
  have f1 := HS0.out.hlp.free ⟨hb, 1, none⟩ rfl
  have f2 := HS0.out.hlp.free ⟨hb, 2, none⟩ rfl
  simp only [List.getElem?_cons_zero, List.getElem?_cons_succ] at g0 g1 g2 g3 g4 g5 g6 h0 h1 h2 b0 b1 b2 b3 b4
  skip
  have ha0 : 0 ≤ p.at_ := OK.out.fits.a.1
  have ha1 : p.at_ < p.V.length := OK.out.fits.a.2
  have hi : p.at_.toNat < p.V.length := by omega
  obtain ⟨adv, hAv, hcv0⟩ := int_at HX.out.h0 hi
  have hcv := pw_cell_below HS0.out.below hcv0
  have hrb := OK.out.fits.hV _ (List.getElem_mem hi)
  have HR := Lib.hid (show p.V.getD p.at_.toNat 0 = p.V[p.at_.toNat] by simp [List.getD_eq_getElem?_getD, List.getElem?_eq_getElem hi])
  have hff := OK.out.fits.f
  rw [HR.out] at hff
  simp only at hAv hcv hrb
  generalize p.V[p.at_.toNat] = r at *
  subst hAv
  have hr0 : 0 ≤ r := hrb.1
  have hr1 : r < d.fields.length := hrb.2
  have hrn : r.toNat < d.fields.length := by omega
  have hf0 : 0 ≤ p.fld := hff.1
  have hf1 : p.fld < (d.fields.getD r.toNat []).length := hff.2
  have hfn : p.fld.toNat < (d.fields.getD r.toNat []).length := by omega
  obtain ⟨adf, cf, adg, cg, ef, hcf, hcg, hsetf⟩ := HS0.out.out.atF hrn hfn
  have HSF := Lib.hid hsetf
  subst ef
  clear hcv0 hrb hff hsetf
  generalize hrow : d.fields.getD r.toNat [] = row at *
  have HROW := Lib.hid hrow
  clear hrow
  by_cases he : row.getD p.fld.toNat 0 = p.old
  · have HEQ : stepH d ⟨7, i⟩ p scx = (5, false, 0, ⟨8, i⟩, { d with fields := d.fields.set r.toNat (row.set p.fld.toNat p.new) }) := by
      unfold stepH; rw [if_neg (show ¬ (7 : Int) = 1 by decide)]; rw [if_neg (show ¬ (7 : Int) = 2 by decide)]; rw [if_neg (show ¬ (7 : Int) = 3 by decide)]; rw [if_neg (show ¬ (7 : Int) = 4 by decide)]; rw [if_neg (show ¬ (7 : Int) = 5 by decide)]; rw [if_neg (show ¬ (7 : Int) = 6 by decide)]; rw [if_pos rfl]; rw [show swgH d p = { d with fields := d.fields.set r.toNat (row.set p.fld.toNat p.new) } from by unfold swgH; simp only; rw [HR.out, HROW.out, if_pos he]]
    unfold StepPost at HQ'
    rw [HEQ] at HQ'
    clear HEQ
    rw [he] at hcg
    go_wp2
    generalize w.alloc (.cells #[.slice (some adv) p.V.length k0, .slice B1 p.infos.length k1, .slice B2 p.fin.length k2, .int .i64 p.at_, .int .i64 p.fld, .int .i64 p.old, .int .i64 p.new] 38) = w0 at *
    go_quiet (fail)
    revert nq
    intro n1
    go_wp2
    go_quiet (fail)
    revert nq
    intro n2
    have HY := Lib.hid (pw_below_drewN (pw_below_drewN (Below.refl w0.heap.size w0) n1) n2)
    generalize ((w0.drewN n1).drewN n2) = wy at *
    have HSy := Lib.hid (HS0.out.more HY.out)
    have HPy := Lib.hid (HPB.out.below HY.out HPB.out.lt)
    have HSw := Lib.hid (HSy.out.more (Below.refl wy.heap.size wy).drew)
    have HPw := Lib.hid (HPy.out.below (Below.refl wy.heap.size wy).drew HPy.out.lt)
    clear g0 g1 g2 g3 g4 g5 g6 h0 h1 h2 b0 b1 b2 b3 b4 f1 f2
    have g0 := HPy.out.cell 0
    have g1 := HPy.out.cell 1
    have g2 := HPy.out.cell 2
    have g3 := HPy.out.cell 3
    have g4 := HPy.out.cell 4
    have g5 := HPy.out.cell 5
    have g6 := HPy.out.cell 6
    have h0 := HSy.out.hlp.cell 0
    have h1 := HSy.out.hlp.cell 1
    have h2 := HSy.out.hlp.cell 2
    have b0 := HSy.out.box.cell 0
    have b1 := HSy.out.box.cell 1
    have b2 := HSy.out.box.cell 2
    have b3 := HSy.out.box.cell 3
    have b4 := HSy.out.box.cell 4
    have f1 := HSy.out.hlp.free ⟨hb, 1, none⟩ rfl
    have f2 := HSy.out.hlp.free ⟨hb, 2, none⟩ rfl
    simp only [List.getElem?_cons_zero, List.getElem?_cons_succ] at g0 g1 g2 g3 g4 g5 g6 h0 h1 h2 b0 b1 b2 b3 b4
    have hgy := pw_cell_below HY.out hcg
    obtain ⟨hfx, hst⟩ := HSF.out wy HSy.out.out
    have HST := Lib.hid (HSy.out.oset (hst p.new).1 (hst p.new).2)
    have HPT := Lib.hid ((hst p.new).2.blk HPy.out (HSy.out.apart HPy.out))
    clear hst hcf hcg
    have yg0 := HPT.out.cell 0
    have yg1 := HPT.out.cell 1
    have yg2 := HPT.out.cell 2
    have yg3 := HPT.out.cell 3
    have yg4 := HPT.out.cell 4
    have yg5 := HPT.out.cell 5
    have yg6 := HPT.out.cell 6
    have yh0 := HST.out.hlp.cell 0
    have yh1 := HST.out.hlp.cell 1
    have yh2 := HST.out.hlp.cell 2
    have yb0 := HST.out.box.cell 0
    have yb1 := HST.out.box.cell 1
    have yb2 := HST.out.box.cell 2
    have yb3 := HST.out.box.cell 3
    have yb4 := HST.out.box.cell 4
    have yf1 := HST.out.hlp.free ⟨hb, 1, none⟩ rfl
    have yf2 := HST.out.hlp.free ⟨hb, 2, none⟩ rfl
    simp only [List.getElem?_cons_zero, List.getElem?_cons_succ] at yg0 yg1 yg2 yg3 yg4 yg5 yg6 yh0 yh1 yh2 yb0 yb1 yb2 yb3 yb4
    go_wp2
    (try simp only [Exit.inBlock, Exit.then])
    refine bodyPost_ret (results_tmp3 rfl _ _ _) rfl ?_
    exact HQ'.out _ _ ⟨rfl, HST.out.hset (fr_one rfl) (HST.out.hlp.set 1 _)⟩
  · have HEQ : stepH d ⟨7, i⟩ p scx = (5, false, 0, ⟨8, i⟩, d) := by
      unfold stepH; rw [if_neg (show ¬ (7 : Int) = 1 by decide)]; rw [if_neg (show ¬ (7 : Int) = 2 by decide)]; rw [if_neg (show ¬ (7 : Int) = 3 by decide)]; rw [if_neg (show ¬ (7 : Int) = 4 by decide)]; rw [if_neg (show ¬ (7 : Int) = 5 by decide)]; rw [if_neg (show ¬ (7 : Int) = 6 by decide)]; rw [if_pos rfl]; rw [show swgH d p = d from by unfold swgH; simp only; rw [HR.out, HROW.out, if_neg he]]
    unfold StepPost at HQ'
    rw [HEQ] at HQ'
    clear HEQ
    generalize row.getD p.fld.toNat 0 = q at *
    have hqn : (q == p.old) = false := by rw [beq_eq_false_iff_ne]; exact he
    go_wp2
    generalize w.alloc (.cells #[.slice (some adv) p.V.length k0, .slice B1 p.infos.length k1, .slice B2 p.fin.length k2, .int .i64 p.at_, .int .i64 p.fld, .int .i64 p.old, .int .i64 p.new] 38) = w0 at *
    go_quiet (fail)
    revert nq
    intro n1
    go_wp2
    go_quiet (fail)
    revert nq
    intro n2
    go_wp2
    (try simp only [Exit.inBlock, Exit.then])
    refine bodyPost_ret (results_tmp3 rfl _ _ _) rfl ?_
    exact HQ'.out _ _ ⟨rfl, (HS0.out.more (pw_below_drewN (Below.refl w0.heap.size w0) _)).hset (fr_one rfl) (HS0.out.hlp.set 1 _)⟩

set_option maxHeartbeats 4000000 in
set_option maxRecDepth 100000 in
theorem ref13_Step8 (wb w : World) (bw hb : Nat) (d : WD) (x : PX) (fv iv mv sv zv : Value) (us : List Value) (scx : Int) (i : Nat) (hx : x.Reads wb) (h : StAt wb w w bw hb d fv iv mv sv zv us scx ⟨8, i⟩) (ok : StOk d x.p scx ⟨8, i⟩) :
    Calls Tryz.prog 44 #[.pointer (some ⟨bw, 0, none⟩), .pointer (some ⟨hb, 0, none⟩), x.val] w (StepPost wb w bw hb d x.p fv iv mv sv zv us scx ⟨8, i⟩) := by
  obtain ⟨p, B0, k0, B1, k1, B2, k2⟩ := x
  refine calls_hide fun Q HQ => ?_
  have HQ' := Lib.hid HQ
  have HX := Lib.hid hx
  have OK := Lib.hid (show StOk d p scx _ from ok)
  have hbx := (Below.refl w.heap.size w).alloc (Nat.le_refl _) (.cells #[.slice B0 p.V.length k0, .slice B1 p.infos.length k1, .slice B2 p.fin.length k2, .int .i64 p.at_, .int .i64 p.fld, .int .i64 p.old, .int .i64 p.new] 38)
  have HS0 := Lib.hid (h.more hbx)
  have hpb := Blk.new w 38 [.slice B0 p.V.length k0, .slice B1 p.infos.length k1, .slice B2 p.fin.length k2, .int .i64 p.at_, .int .i64 p.fld, .int .i64 p.old, .int .i64 p.new]
  have HPB := Lib.hid hpb
  have hlt0 := h.hlp.lt
  have hlt1 := h.box.lt
  have HNE := Lib.hid (show ¬ w.heap.size = hb ∧ ¬ w.heap.size = bw by constructor <;> omega)
  clear HQ hx h ok hpb hbx hlt0 hlt1
  go_enter Tryz.func44, Tryz.ntmps44
  have g0 := HPB.out.cell 0
  have g1 := HPB.out.cell 1
  have g2 := HPB.out.cell 2
  have g3 := HPB.out.cell 3
  have g4 := HPB.out.cell 4
  have g5 := HPB.out.cell 5
  have g6 := HPB.out.cell 6
  have h0 := HS0.out.hlp.cell 0
  have h1 := HS0.out.hlp.cell 1
  have h2 := HS0.out.hlp.cell 2
  have b0 := HS0.out.box.cell 0
  have b1 := HS0.out.box.cell 1
  have b2 := HS0.out.box.cell 2
  have b3 := HS0.out.box.cell 3
  have b4 := HS0.out.box.cell 4
  have f1 := HS0.out.hlp.free ⟨hb, 1, none⟩ rfl
  have f2 := HS0.out.hlp.free ⟨hb, 2, none⟩ rfl
  simp only [List.getElem?_cons_zero, List.getElem?_cons_succ] at g0 g1 g2 g3 g4 g5 g6 h0 h1 h2 b0 b1 b2 b3 b4
  skip
  have hs0 : 0 ≤ scx := OK.out.s0
  have hs1 : scx.toNat < d.states.length := by have := OK.out.s1; omega
  have hs2 : scx < d.states.length := OK.out.s1
  obtain ⟨ads, cs, es, hcs, hsets⟩ := HS0.out.out.atS hs1
  subst es
  clear hsets
  have HEQ : stepH d ⟨8, i⟩ p scx = (2, true, 1, ⟨8, i⟩, { d with states := d.states.set scx.toNat 1 }) := by
    unfold stepH; rw [if_neg (show ¬ (8 : Int) = 1 by decide)]; rw [if_neg (show ¬ (8 : Int) = 2 by decide)]; rw [if_neg (show ¬ (8 : Int) = 3 by decide)]; rw [if_neg (show ¬ (8 : Int) = 4 by decide)]; rw [if_neg (show ¬ (8 : Int) = 5 by decide)]; rw [if_neg (show ¬ (8 : Int) = 6 by decide)]; rw [if_neg (show ¬ (8 : Int) = 7 by decide)]
  unfold StepPost at HQ'
  rw [HEQ] at HQ'
  clear HEQ
  go_wp2_with fail
  generalize w.alloc (.cells #[.slice B0 p.V.length k0, .slice B1 p.infos.length k1, .slice B2 p.fin.length k2, .int .i64 p.at_, .int .i64 p.fld, .int .i64 p.old, .int .i64 p.new] 38) = w0 at *
  have HSy := Lib.hid HS0.out
  have HPy := Lib.hid HPB.out
  have HSw := Lib.hid (HSy.out.more (Below.refl w0.heap.size w0).drew)
  have HPw := Lib.hid (HPy.out.below (Below.refl w0.heap.size w0).drew HPy.out.lt)
  obtain ⟨adx, cx, ex, hcx, hsx⟩ := HSw.out.out.atS hs1
  obtain ⟨rfl, rfl⟩ : ads = adx ∧ cs = cx := by simp at ex; exact ex
  obtain ⟨hfx, hst⟩ := hsx _ HSw.out.out
  have HST := Lib.hid (HSw.out.oset (hst 1).1 (hst 1).2)
  have HPT := Lib.hid ((hst 1).2.blk HPw.out (HSw.out.apart HPw.out))
  clear ex hsx hst
  go_wp2_with fail
  refine wp_region_still_tail 9 (by kernel_rfl) (by kernel_rfl) ?_
  simp only [List.take_succ_cons, List.take_zero, List.drop_succ_cons, List.drop_zero]
  iterate 9 still_step
  refine wpStill_nil ?_
  change wpList _ _ _ _ _ w0.drew
  generalize w0.drew = wz at *
  go_wp2
  (try simp only [Exit.inBlock, Exit.then])
  refine bodyPost_ret (results_tmp3 rfl _ _ _) rfl ?_
  exact HQ'.out _ _ ⟨rfl, HST.out⟩
end Go.Proofs.YtphhdmopfmelbaaGreat

/- larchref13: Step, whatever the line; where the helper stands then. -/
namespace Go.Proofs.YtphhdmopfmelbaaGreat
open Go.RowKit Go.Proofs.YtphhdmopfmelbaaGreatW.PrintWords
set_option linter.unusedVariables false
set_option linter.unusedSimpArgs false

theorem ref13_Step (wb w : World) (bw hb : Nat) (d : WD) (x : PX) (fv iv mv sv zv : Value) (us : List Value) (scx : Int) (s : HS) (hx : x.Reads wb) (h : StAt wb w w bw hb d fv iv mv sv zv us scx s) (ok : StOk d x.p scx s) :
    Calls Tryz.prog 44 #[.pointer (some ⟨bw, 0, none⟩), .pointer (some ⟨hb, 0, none⟩), x.val] w (StepPost wb w bw hb d x.p fv iv mv sv zv us scx s) := by
  obtain ⟨l, i⟩ := s
  have hl := ok.ln
  simp only at hl
  rcases hl with rfl | rfl | rfl | rfl | rfl | rfl | rfl | rfl
  · exact ref13_Step1 wb w bw hb d x fv iv mv sv zv us scx i hx h ok
  · exact ref13_Step2 wb w bw hb d x fv iv mv sv zv us scx i hx h ok
  · exact ref13_Step3 wb w bw hb d x fv iv mv sv zv us scx i hx h ok
  · exact ref13_Step4 wb w bw hb d x fv iv mv sv zv us scx i hx h ok
  · exact ref13_Step5 wb w bw hb d x fv iv mv sv zv us scx i hx h ok
  · exact ref13_Step6 wb w bw hb d x fv iv mv sv zv us scx i hx h ok
  · exact ref13_Step7 wb w bw hb d x fv iv mv sv zv us scx i hx h ok
  · exact ref13_Step8 wb w bw hb d x fv iv mv sv zv us scx i hx h ok
/-- Only lengths matter. -/
theorem PlanD.Fits.cong {p : PlanD} {d d' : WD} (h : p.Fits d) (h1 : d'.fields.length = d.fields.length) (h2 : d'.states.length = d.states.length) (h3 : ∀ r, (d'.fields.getD r []).length = (d.fields.getD r []).length) : p.Fits d' :=
  ⟨h.v0, h.v1, h.v2, h.a, by rw [h1]; exact h.o, by rw [h1]; exact h.n, by rw [h1]; exact h.hV, by rw [h2]; exact h.hI, by rw [h3]; exact h.f⟩
theorem StOk.cong {d d' : WD} {p : PlanD} {scx : Int} {s s' : HS} (h : StOk d p scx s) (h0 : d'.fields.length = d.fields.length) (h1 : d'.infos.length = d.infos.length) (h2 : d'.marks.length = d.marks.length) (h3 : d'.states.length = d.states.length) (h4 : d'.frozen.length = d.frozen.length)
    (h5 : ∀ r, (d'.fields.getD r []).length = (d.fields.getD r []).length) (ln : s'.line = 1 ∨ s'.line = 2 ∨ s'.line = 3 ∨ s'.line = 4 ∨ s'.line = 5 ∨ s'.line = 6 ∨ s'.line = 7 ∨ s'.line = 8) (ii : s'.line = 1 ∨ s'.line = 2 ∨ s'.line = 6 → s'.i < p.V.length) (il : s'.i ≤ p.V.length) : StOk d' p scx s' :=
  ⟨by rw [h1, h0]; exact h.e1, by rw [h2, h0]; exact h.e2, by rw [h4, h3]; exact h.e4, h.fits.cong h0 h3 h5, h.s0, by rw [h3]; exact h.s1, ln, ii, il, h.sz⟩
theorem skip_le (p : PlanD) (i : Nat) (hf : p.fin.length = p.V.length) (hi : i ≤ p.V.length) : skipS p i ≤ p.V.length := by
  unfold skipS
  have := (List.takeWhile_sublist (fun f => !f) (l := p.fin.drop i)).length_le
  rw [List.length_drop] at this
  omega
theorem stepH_ok {d : WD} {p : PlanD} {scx : Int} {s : HS} (ok : StOk d p scx s) (hd : (stepH d s p scx).2.1 = false) : StOk (stepH d s p scx).2.2.2.2 p scx (stepH d s p scx).2.2.2.1 := by
  have hnx : s.i < p.V.length → ((nextS p s.i).line = 1 ∨ (nextS p s.i).line = 5) ∧ ((nextS p s.i).line = 1 → (nextS p s.i).i < p.V.length) ∧ (nextS p s.i).i ≤ p.V.length := fun hi => by
    unfold nextS
    split
    · exact ⟨.inr rfl, fun h => by simp at h, by simp only; omega⟩
    · exact ⟨.inl rfl, fun _ => by simp only; omega, by simp only; omega⟩
  have hmk : ∀ i, i ≤ p.V.length → ((marksS p i).line = 6 ∨ (marksS p i).line = 7) ∧ ((marksS p i).line = 6 → (marksS p i).i < p.V.length) ∧ (marksS p i).i ≤ p.V.length := fun i hi => by
    have hs := skip_le p i ok.fits.v2 hi
    unfold marksS
    split
    · exact ⟨.inr rfl, fun h => by simp at h, by simp only; omega⟩
    · exact ⟨.inl rfl, fun _ => by simp only; omega, by simp only; omega⟩
  have fromN : ∀ {d' : WD}, (s.i < p.V.length) → d'.fields.length = d.fields.length → d'.infos.length = d.infos.length → d'.marks.length = d.marks.length → d'.states.length = d.states.length → d'.frozen.length = d.frozen.length → (∀ r, (d'.fields.getD r []).length = (d.fields.getD r []).length) → StOk d' p scx (nextS p s.i) := fun hi a0 a1 a2 a3 a4 a5 => by
    obtain ⟨q1, q2, q3⟩ := hnx hi
    refine ok.cong a0 a1 a2 a3 a4 a5 (by rcases q1 with q | q <;> simp [q]) (fun h => ?_) q3
    rcases q1 with q | q
    · exact q2 q
    · rw [q] at h; omega
  have fromM : ∀ {d' : WD} (i : Nat), i ≤ p.V.length → d'.fields.length = d.fields.length → d'.infos.length = d.infos.length → d'.marks.length = d.marks.length → d'.states.length = d.states.length → d'.frozen.length = d.frozen.length → (∀ r, (d'.fields.getD r []).length = (d.fields.getD r []).length) → StOk d' p scx (marksS p i) := fun i hi a0 a1 a2 a3 a4 a5 => by
    obtain ⟨q1, q2, q3⟩ := hmk i hi
    refine ok.cong a0 a1 a2 a3 a4 a5 (by rcases q1 with q | q <;> simp [q]) (fun h => ?_) q3
    rcases q1 with q | q
    · exact q2 q
    · rw [q] at h; omega
  have hl := ok.ln
  unfold stepH at hd ⊢
  by_cases l1 : s.line = 1
  · have hi := ok.ii (.inl l1)
    simp only [if_pos l1] at hd ⊢
    split
    · exact fromN hi rfl (by simp) rfl rfl rfl (fun _ => rfl)
    · exact ok.cong rfl rfl rfl rfl rfl (fun _ => rfl) (by simp) (fun _ => hi) (by simp only; omega)
  simp only [if_neg l1] at hd ⊢
  by_cases l2 : s.line = 2
  · have hi := ok.ii (.inr (.inl l2))
    simp only [if_pos l2] at hd ⊢
    split
    · exact fromN hi rfl rfl rfl rfl rfl (fun _ => rfl)
    · exact ok.cong rfl rfl rfl rfl rfl (fun _ => rfl) (by simp) (fun h => by simp at h) (by simp only; omega)
  simp only [if_neg l2] at hd ⊢
  by_cases l3 : s.line = 3
  · simp only [if_pos l3] at hd ⊢
    exact ok.cong rfl rfl rfl rfl rfl (fun _ => rfl) (by simp) (fun h => by simp at h) ok.il
  simp only [if_neg l3] at hd ⊢
  by_cases l4 : s.line = 4
  · simp only [if_pos l4] at hd
    cases hd
  simp only [if_neg l4] at hd ⊢
  by_cases l5 : s.line = 5
  · simp only [if_pos l5] at hd ⊢
    exact fromM 0 (Nat.zero_le _) rfl rfl rfl rfl (by simp) (fun _ => rfl)
  simp only [if_neg l5] at hd ⊢
  by_cases l6 : s.line = 6
  · have hi := ok.ii (.inr (.inr l6))
    simp only [if_pos l6] at hd ⊢
    exact fromM (s.i + 1) hi rfl rfl (by simp) rfl rfl (fun _ => rfl)
  simp only [if_neg l6] at hd ⊢
  by_cases l7 : s.line = 7
  · simp only [if_pos l7] at hd ⊢
    unfold swgH
    simp only
    split
    · refine ok.cong (by simp) rfl rfl rfl rfl (fun r => ?_) (by simp) (fun h => by simp at h) ok.il
      by_cases e : r = (p.V.getD p.at_.toNat 0).toNat
      · subst e
        by_cases hlt : (p.V.getD p.at_.toNat 0).toNat < d.fields.length
        · rw [getD_set _ _ _ _ _ hlt, if_pos rfl, List.length_set]
        · rw [List.getD_eq_getElem?_getD, List.getElem?_eq_none (by rw [List.length_set]; omega), List.getD_eq_getElem?_getD, List.getElem?_eq_none (by omega)]
      · rw [List.getD_eq_getElem?_getD, List.getElem?_set_ne (fun h => e h.symm), ← List.getD_eq_getElem?_getD]
    · exact ok.cong rfl rfl rfl rfl rfl (fun _ => rfl) (by simp) (fun h => by simp at h) ok.il
  simp only [if_neg l7] at hd
  cases hd
end Go.Proofs.YtphhdmopfmelbaaGreat

/- larchref13: fits. -/
namespace Go.Proofs.YtphhdmopfmelbaaGreat
open Go.RowKit Go.Proofs.YtphhdmopfmelbaaGreatW.PrintWords
set_option linter.unusedVariables false
set_option linter.unusedSimpArgs false

abbrev TRP3 : Nat := 38
set_option maxHeartbeats 8000000 in
set_option maxRecDepth 100000 in
theorem ref13_fits (w : World) (v : WV) (d : WD) (x : PX) (hv : v.Reads w d) (hx : x.Reads w) (hl : d.fields.length < 1000000000000000) (hl3 : d.states.length < 1000000000000000) (hr : ∀ r ∈ d.fields, r.length < 1000000000000000) (hl4 : x.p.V.length < 1000000000000000) :
    Calls Tryz.prog 52 #[v.val d, x.val] w fun e w' => ∃ r, e = .returned (.bool r) ∧ (r = true ↔ x.p.Fits d) ∧ Below w.heap.size w w' := by
  obtain ⟨p, B0, k0, B1, k1, B2, k2⟩ := x
  refine calls_hide fun Q HQ => ?_
  have HN := Lib.hid (show ∀ w', Below w.heap.size w w' → ¬ p.Fits d → Q (.returned (.bool false)) w' from fun w' hb hn => HQ _ _ ⟨false, rfl, by simp [hn], hb⟩)
  have HY := Lib.hid (show ∀ w', Below w.heap.size w w' → p.Fits d → Q (.returned (.bool true)) w' from fun w' hb hn => HQ _ _ ⟨true, rfl, by simp [hn], hb⟩)
  have HV := Lib.hid hv
  have HX := Lib.hid hx
  have HR := Lib.hid hr
  simp only at hl4
  clear HQ hv hr hx
  go_enter Tryz.func52, Tryz.ntmps52
  by_cases e0 : p.V.length = 0
  case pos =>
    have HF := Lib.hid (fun w' hb => HN.out w' hb (fun h => by have := h.v0; omega))
    clear HN HY HV HR
    go_wp2
    exact HF.out _ (((Below.refl _ _).alloc (Nat.le_refl _) _).alloc (by simp) _)
  have f0 : ((p.V.length : Int) == 0) = false := by rw [beq_eq_false_iff_ne]; omega
  by_cases e1 : p.infos.length = p.V.length
  case neg =>
    have f1 : ((p.infos.length : Int) != (p.V.length : Int)) = true := by rw [bne_iff_ne]; omega
    have HF := Lib.hid (fun w' hb => HN.out w' hb (fun h => e1 h.v1))
    clear HN HY HV HR
    go_wp2
    exact HF.out _ (((Below.refl _ _).alloc (Nat.le_refl _) _).alloc (by simp) _)
  by_cases e2 : p.fin.length = p.V.length
  case neg =>
    have f1 : ((p.fin.length : Int) != (p.V.length : Int)) = true := by rw [bne_iff_ne]; omega
    have HF := Lib.hid (fun w' hb => HN.out w' hb (fun h => e2 h.v2))
    clear HN HY HV HR
    go_wp2
    exact HF.out _ (((Below.refl _ _).alloc (Nat.le_refl _) _).alloc (by simp) _)
  have E0 := Lib.hid (show 0 < p.V.length by omega)
  have E1 := Lib.hid e1
  have E2 := Lib.hid e2
  by_cases h1 : inH p.at_ 0 p.V.length
  case neg =>
    have HW1 := Lib.hid (ref13_in_of p.at_ 0 p.V.length false (by rw [inB_false]; exact h1))
    have HF := Lib.hid (fun w' hb => HN.out w' hb (fun h => h1 (h.a)))
    clear HN HY HV HR h1
    go_wp2_with fail
    refine (HW1.out _).mono ?_
    rintro e w1 ⟨rfl, rfl⟩
    go_wp2
    exact HF.out _ (((Below.refl _ _).alloc (Nat.le_refl _) _).alloc (by simp) _)
  have HW1 := Lib.hid (ref13_in_of p.at_ 0 p.V.length true (by rw [inB_true]; exact h1))
  by_cases h2 : inH p.old (-1) d.fields.length
  case neg =>
    have HW2 := Lib.hid (ref13_in_of p.old (-1) d.fields.length false (by rw [inB_false]; exact h2))
    have HF := Lib.hid (fun w' hb => HN.out w' hb (fun h => h2 (h.o)))
    clear HN HY HV HR h2
    go_wp2_with fail
    refine (HW1.out _).mono ?_
    rintro e w1 ⟨rfl, rfl⟩
    go_wp2_with fail
    refine (HW2.out _).mono ?_
    rintro e w1 ⟨rfl, rfl⟩
    go_wp2
    exact HF.out _ (((Below.refl _ _).alloc (Nat.le_refl _) _).alloc (by simp) _)
  have HW2 := Lib.hid (ref13_in_of p.old (-1) d.fields.length true (by rw [inB_true]; exact h2))
  by_cases h3 : inH p.new (-1) d.fields.length
  case neg =>
    have HW3 := Lib.hid (ref13_in_of p.new (-1) d.fields.length false (by rw [inB_false]; exact h3))
    have HF := Lib.hid (fun w' hb => HN.out w' hb (fun h => h3 (h.n)))
    clear HN HY HV HR h3
    go_wp2_with fail
    refine (HW1.out _).mono ?_
    rintro e w1 ⟨rfl, rfl⟩
    go_wp2_with fail
    refine (HW2.out _).mono ?_
    rintro e w1 ⟨rfl, rfl⟩
    go_wp2_with fail
    refine (HW3.out _).mono ?_
    rintro e w1 ⟨rfl, rfl⟩
    go_wp2
    exact HF.out _ (((Below.refl _ _).alloc (Nat.le_refl _) _).alloc (by simp) _)
  have HW3 := Lib.hid (ref13_in_of p.new (-1) d.fields.length true (by rw [inB_true]; exact h3))
  have H3 := Lib.hid (And.intro h1 (And.intro h2 h3))
  have hat0 : 0 ≤ p.at_ := h1.1
  have hat1 : p.at_ < p.V.length := h1.2
  clear h1 h2 h3
  go_wp2_with fail
  refine (HW1.out _).mono ?_
  rintro e w1 ⟨rfl, rfl⟩
  go_wp2_with fail
  refine (HW2.out _).mono ?_
  rintro e w1 ⟨rfl, rfl⟩
  go_wp2_with fail
  refine (HW3.out _).mono ?_
  rintro e w1 ⟨rfl, rfl⟩
  go_wp2
  clear e0 e1 e2 f0 HW1 HW2 HW3
  generalize hW : (w.alloc (.cells #[.slice v.A0 d.fields.length v.c0, .slice v.A1 d.infos.length v.c1, .slice v.A2 d.marks.length v.c2, .slice v.A3 d.states.length v.c3, .slice v.A4 d.frozen.length v.c4] TRW3)).alloc (.cells #[.slice B0 p.V.length k0, .slice B1 p.V.length k1, .slice B2 p.V.length k2, .int .i64 p.at_, .int .i64 p.fld, .int .i64 p.old, .int .i64 p.new] TRP3) = w0
  have HB0 := Lib.hid (show Below w.heap.size w w0 by rw [← hW]; exact ((Below.refl _ _).alloc (Nat.le_refl _) _).alloc (by simp) _)
  have HP0 := Lib.hid (show Blk w0 (w.heap.size + 1) TRP3 (PX.cells (PX.mk p B0 k0 B1 k1 B2 k2)) by rw [← hW]; have h := Blk.new (w.alloc (.cells #[.slice v.A0 d.fields.length v.c0, .slice v.A1 d.infos.length v.c1, .slice v.A2 d.marks.length v.c2, .slice v.A3 d.states.length v.c3, .slice v.A4 d.frozen.length v.c4] TRW3)) TRP3 (PX.cells (PX.mk p B0 k0 B1 k1 B2 k2)); simp only [PX.cells, E1.out, E2.out, World.size_alloc] at h ⊢; exact h)
  have HK0 := Lib.hid (show Blk w0 (w.heap.size) TRW3 (v.cells d) by rw [← hW]; exact (Blk.new w _ _).alloc _)
  clear hW
  go_loopw [6] (fun k wr => ∃ j : Nat, j ≤ p.V.length ∧ k = .int .i64 j ∧ (∀ n ∈ p.V.take j, inH n 0 d.fields.length) ∧ (∀ n ∈ p.infos.take j, inH n (-1) d.states.length) ∧ Below w.heap.size w wr ∧ Blk wr (w.heap.size + 1) TRP3 (PX.cells (PX.mk p B0 k0 B1 k1 B2 k2)) ∧ Blk wr (w.heap.size) TRW3 (v.cells d)) (fun k _ => p.V.length - (intOf k).toNat)
  case atStart => exact ⟨0, Nat.zero_le _, rfl, by simp, by simp, HB0.out, HP0.out, HK0.out⟩
  case round =>
    clear HB0 HK0 HP0
    obtain ⟨j, hj, rfl, hr1, hr2, hb, hp, hk⟩ := hrel
    have H1 := Lib.hid hr1
    have H2 := Lib.hid hr2
    have HB := Lib.hid hb
    have HP := Lib.hid hp
    have HK := Lib.hid hk
    clear hr1 hr2 hb hp hk
    have hpa : wr.cell? ⟨w.heap.size + 1, 0, none⟩ = some (.slice B0 p.V.length k0) := HP.out.cell 0
    have hpb : wr.cell? ⟨w.heap.size + 1, 1, none⟩ = some (.slice B1 p.infos.length k1) := HP.out.cell 1
    have hpd : wr.cell? ⟨w.heap.size + 1, 3, none⟩ = some (.int .i64 p.at_) := HP.out.cell 3
    have hpe : wr.cell? ⟨w.heap.size + 1, 4, none⟩ = some (.int .i64 p.fld) := HP.out.cell 4
    have hpf : wr.cell? ⟨w.heap.size + 1, 5, none⟩ = some (.int .i64 p.old) := HP.out.cell 5
    have hpg : wr.cell? ⟨w.heap.size + 1, 6, none⟩ = some (.int .i64 p.new) := HP.out.cell 6
    have hwa : wr.cell? ⟨w.heap.size, 0, none⟩ = some (.slice v.A0 d.fields.length v.c0) := HK.out.cell 0
    have hwd : wr.cell? ⟨w.heap.size, 3, none⟩ = some (.slice v.A3 d.states.length v.c3) := HK.out.cell 3
    by_cases hlt : j < p.V.length
    · have e1 := E1.out
      obtain ⟨ad, hA, hc0⟩ := int_at HX.out.h0 hlt
      have hc1 := pw_cell_below HB.out hc0
      obtain ⟨ad2, hA2, hc2⟩ := int_at HX.out.h1 (j := j) (by show j < p.infos.length; omega)
      have hc3 := pw_cell_below HB.out hc2
      have HM1 := Lib.hid (List.getElem_mem hlt)
      have HM2 := Lib.hid (List.getElem_mem (l := p.infos) (n := j) (by omega))
      have HS1 := Lib.hid (all_take (P := fun n => inH n 0 d.fields.length) hlt H1.out)
      have HS2 := Lib.hid (all_take (P := fun n => inH n (-1) d.states.length) (l := p.infos) (j := j) (show j < p.infos.length by omega) H2.out)
      simp only at hA hA2 hc0 hc1 hc2 hc3
      generalize p.V[j] = n at *
      generalize p.infos[j]'(by omega) = m at *
      subst hA hA2
      clear hc0 hc2 H1 H2
      by_cases hin : inH n 0 d.fields.length
      case neg =>
        have hw1 : inB n 0 d.fields.length = false := inB_false.2 hin
        have HF := Lib.hid (fun w' hb => HN.out w' hb (fun h => hin (h.hV _ HM1.out)))
        clear hin HS1 HS2 HN HY
        go_wp2
        go_quiet ((go_at_call 41; exact Calls.quiet_of_same (ref13_in _ _ _ _)))
        go_wp2
        exact HF.out _ (pw_below_drewN HB.out _)
      have hw1 : inB n 0 d.fields.length = true := inB_true.2 hin
      by_cases him : inH m (-1) d.states.length
      case neg =>
        have hw2 : inB m (-1) d.states.length = false := inB_false.2 him
        have HF := Lib.hid (fun w' hb => HN.out w' hb (fun h => him (h.hI _ HM2.out)))
        clear hin him HS1 HS2 HN HY
        go_wp2
        go_quiet ((go_at_call 41; exact Calls.quiet_of_same (ref13_in _ _ _ _)))
        go_wp2
        exact HF.out _ (pw_below_drewN HB.out _)
      have hw2 : inB m (-1) d.states.length = true := inB_true.2 him
      have HT1 := Lib.hid (HS1.out hin)
      have HT2 := Lib.hid (HS2.out him)
      clear hin him HS1 HS2
      go_wp2
      go_quiet ((go_at_call 41; exact Calls.quiet_of_same (ref13_in _ _ _ _)))
      go_wp2
      go_roundw
      case rel => exact ⟨j + 1, by omega, by go_num, HT1.out, HT2.out, pw_below_drewN HB.out _, HP.out, HK.out⟩
      case measure => simp [intOf]; omega
    · obtain rfl : j = p.V.length := by omega
      have HF1 := Lib.hid (all_len H1.out)
      have HF2 := Lib.hid (all_len (P := fun n => inH n (-1) d.states.length) (l := p.infos) (by rw [E1.out]; exact H2.out))
      clear H1 H2 hlt hj
      obtain ⟨adv, hAv, hcv0⟩ := int_at HX.out.h0 (j := p.at_.toNat) (by show p.at_.toNat < p.V.length; omega)
      have hcv := pw_cell_below HB.out hcv0
      have HVm := HF1.out _ (List.getElem_mem (l := p.V) (n := p.at_.toNat) (by omega))
      have HG := Lib.hid (show p.V.getD p.at_.toNat 0 = p.V[p.at_.toNat]'(by omega) by simp [List.getD_eq_getElem?_getD, List.getElem?_eq_getElem (show p.at_.toNat < p.V.length by omega)])
      simp only at hAv hcv0 hcv
      generalize p.V[p.at_.toNat]'(by omega) = n at *
      have hn0 : 0 ≤ n := HVm.1
      have hn1 : n < d.fields.length := HVm.2
      obtain ⟨adf, hAf, A', c', hcf0, _, _⟩ := row_at HV.out.h0 (j := n.toNat) (by omega)
      have hcf := pw_cell_below HB.out hcf0
      have hrl := HR.out _ (List.getElem_mem (l := d.fields) (n := n.toNat) (by omega))
      have HG2 := Lib.hid (show d.fields.getD n.toNat [] = d.fields[n.toNat]'(by omega) by simp [List.getD_eq_getElem?_getD, List.getElem?_eq_getElem (show n.toNat < d.fields.length by omega)])
      generalize d.fields[n.toNat]'(by omega) = row at *
      subst hAv
      clear hcv0 hcf0 HVm
      obtain ⟨A0, c0, A1, c1, A2, c2, A3, c3, A4, c4⟩ := v
      simp only at hAf hwa hwd hcf
      subst hAf
      by_cases h4 : inH p.fld 0 row.length
      case neg =>
        have hw4 : inB p.fld 0 row.length = false := inB_false.2 h4
        have HF := Lib.hid (show ∀ w', Below w.heap.size w w' → Q (.returned (.bool (inB p.fld 0 row.length))) w' from fun w' hb => by rw [hw4]; exact HN.out w' hb (fun h => h4 (by have := h.f; rw [HG.out, HG2.out] at this; exact this)))
        clear HN HY HF1 HF2 h4
        go_wp2
        go_quiet ((go_at_call 41; exact Calls.quiet_of_same (ref13_in _ _ _ _)))
        go_wp2
        exact HF.out _ (pw_below_drewN HB.out _)
      have hw4 : inB p.fld 0 row.length = true := inB_true.2 h4
      have HF := Lib.hid (show ∀ w', Below w.heap.size w w' → Q (.returned (.bool (inB p.fld 0 row.length))) w' from fun w' hb => by rw [hw4]; exact HY.out w' hb ⟨E0.out, E1.out, E2.out, H3.out.1, H3.out.2.1, H3.out.2.2, HF1.out, HF2.out, by rw [HG.out, HG2.out]; exact h4⟩)
      clear HN HY HF1 HF2 h4
      go_wp2
      go_quiet ((go_at_call 41; exact Calls.quiet_of_same (ref13_in _ _ _ _)))
      go_wp2
      exact HF.out _ (pw_below_drewN HB.out _)
end Go.Proofs.YtphhdmopfmelbaaGreat

/- larchref13: Check. -/
namespace Go.Proofs.YtphhdmopfmelbaaGreat
open Go.RowKit Go.Proofs.YtphhdmopfmelbaaGreatW.PrintWords
set_option linter.unusedVariables false
set_option linter.unusedSimpArgs false

set_option maxHeartbeats 8000000 in
set_option maxRecDepth 100000 in
theorem ref13_Check (w : World) (v : WV) (d : WD) (A : Option Addr) (c : Nat) (l : List PX) (hv : v.Reads w d) (hp : PlansAt w A l) (hl : d.fields.length < 1000000000000000) (hl3 : d.states.length < 1000000000000000) (hr : ∀ r ∈ d.fields, r.length < 1000000000000000) (hl4 : l.length < 1000000000000000) (hl5 : ∀ x ∈ l, x.p.V.length < 1000000000000000) :
    Calls Tryz.prog 25 #[v.val d, .slice A l.length c] w fun e w' => e = .returned (.int .i64 (chkH d (l.map PX.p))) ∧ Below w.heap.size w w' := by
  refine calls_hide fun Q HQ => ?_
  have HQ' := Lib.hid HQ
  have HV := Lib.hid hv
  have HP := Lib.hid hp
  have HR := Lib.hid hr
  have HL5 := Lib.hid hl5
  have HBA := Lib.hid ((Below.refl w.heap.size w).alloc (Nat.le_refl _) (.cells (v.cells d).toArray TRW3))
  have HB1 := Lib.hid (Blk.new w TRW3 (v.cells d))
  clear HQ hv hr hp hl5
  have hb0 := bg1_zero d
  have hcases : (d.fields.length > 64 ∧ bg1 d 0 = true) ∨ (¬ d.fields.length > 64 ∧ d.states.length > 64 ∧ bg1 d 0 = true) ∨ (¬ d.fields.length > 64 ∧ ¬ d.states.length > 64 ∧ bg1 d 0 = false) := by
    by_cases h0 : d.fields.length > 64
    · exact .inl ⟨h0, by rw [hb0]; simp [h0]⟩
    · by_cases h1 : d.states.length > 64
      · exact .inr (.inl ⟨h0, h1, by rw [hb0]; simp [h1]⟩)
      · exact .inr (.inr ⟨h0, h1, by rw [hb0]; simp [h0, h1]⟩)
  clear hb0
  rcases hcases with ⟨h0, hb⟩ | ⟨h0, h1, hb⟩ | ⟨h0, h1, hb⟩
  all_goals
    have HB0 := Lib.hid hb
    clear hb
    go_enter Tryz.func25, Tryz.ntmps25
    go_wp2
    go_loopw [6, 5] (fun k b wr => ∃ j : Nat, j ≤ d.fields.length ∧ k = .int .i64 j ∧ b = .bool (bg1 d j) ∧ Below w.heap.size w wr ∧ Blk wr w.heap.size TRW3 (v.cells d)) (fun k _ _ => d.fields.length - (intOf k).toNat)
    case atStart => exact ⟨0, Nat.zero_le _, rfl, by rw [HB0.out] <;> first | rfl | (simp <;> omega), HBA.out, HB1.out⟩
    case round =>
      obtain ⟨j, hj, rfl, rfl, hb, hk⟩ := hrel
      have HB := Lib.hid hb
      have HK := Lib.hid hk
      have hc0 : wr.cell? ⟨w.heap.size, 0, none⟩ = some (.slice v.A0 d.fields.length v.c0) := HK.out.cell 0
      clear hb hk
      by_cases hlt : j < d.fields.length
      · obtain ⟨ad, hA, A', c', hr0, _, _⟩ := row_at HV.out.h0 hlt
        have hr1 := pw_cell_below HB.out hr0
        have hrl := HR.out _ (List.getElem_mem hlt)
        have HBS := Lib.hid (bg1_step d j hlt)
        generalize d.fields[j] = row at *
        obtain ⟨A0, c0, A1, c1, A2, c2, A3, c3, A4, c4⟩ := v
        simp only at hA hc0
        subst hA
        clear hr0
        cases hbj : bg1 d j
        · have hbs := HBS.out
          rw [hbj, Bool.false_or] at hbs
          have HBS2 := Lib.hid hbs
          clear hbs
          go_wp2
          go_roundw
          case rel => exact ⟨j + 1, by omega, by go_num, by rw [HBS2.out]; exact congrArg Value.bool (decide_eq_decide.2 (by omega)), HB.out, HK.out⟩
          case measure => simp [intOf]; omega
        · go_wp2
          go_roundw
          case rel => exact ⟨j + 1, by omega, by go_num, by rw [HBS.out, hbj]; rfl, HB.out, HK.out⟩
          case measure => simp [intOf]; omega
      · have hje : j = d.fields.length := by omega
        subst hje
        clear hlt hj
        have HZ := Lib.hid (bg2_zero d l)
        go_wp2
        clear hc0
        go_loopw [7, 5] (fun k b wr => ∃ j : Nat, j ≤ l.length ∧ k = .int .i64 j ∧ b = .bool (bg2 d l j) ∧ Below w.heap.size w wr ∧ Blk wr w.heap.size TRW3 (v.cells d)) (fun k _ _ => l.length - (intOf k).toNat)
        case atStart => exact ⟨0, Nat.zero_le _, rfl, by rw [HZ.out], HB.out, HK.out⟩
        case round =>
          clear HB HK HZ
          obtain ⟨j, hj, rfl, rfl, hb, hk⟩ := hrel
          have HB := Lib.hid hb
          have HK := Lib.hid hk
          clear hb hk
          by_cases hlt : j < l.length
          · obtain ⟨pb, po, hA, p0, p1, p2, p3, p4, p5, p6⟩ := HP.out.at_ hlt
            have q0 := pw_cell_below HB.out p0
            have q1 := pw_cell_below HB.out p1
            have q2 := pw_cell_below HB.out p2
            have q3 := pw_cell_below HB.out p3
            have q4 := pw_cell_below HB.out p4
            have q5 := pw_cell_below HB.out p5
            have q6 := pw_cell_below HB.out p6
            have hrl := HL5.out _ (List.getElem_mem hlt)
            have HBS := Lib.hid (bg2_step d l j hlt)
            clear p0 p1 p2 p3 p4 p5 p6
            generalize l[j] = x at *
            obtain ⟨p, B0, k0, B1, k1, B2, k2⟩ := x
            simp only at q0 q1 q2 q3 q4 q5 q6 hrl
            subst hA
            cases hbj : bg2 d l j
            · have hbs := HBS.out
              rw [hbj, Bool.false_or] at hbs
              have HBS2 := Lib.hid hbs
              clear hbs
              go_wp2
              go_roundw
              case rel => exact ⟨j + 1, by omega, by go_num, by rw [HBS2.out]; exact congrArg Value.bool (decide_eq_decide.2 (by simp only; omega)), HB.out, HK.out⟩
              case measure => simp [intOf]; omega
            · go_wp2
              go_roundw
              case rel => exact ⟨j + 1, by omega, by go_num, by rw [HBS.out, hbj]; rfl, HB.out, HK.out⟩
              case measure => simp [intOf]; omega
          · have hje : j = l.length := by omega
            subst hje
            clear hlt hj
            cases hbj : bg2 d l l.length
            case true =>
              have hs := chk_big hbj
              rw [hs] at HQ'
              go_wp2
              exact HQ'.out _ _ ⟨rfl, HB.out⟩
            try exact absurd (bg_up HB0.out l.length) (by rw [hbj]; simp)
            all_goals
              have HBJ := Lib.hid hbj
              clear hbj
              have hk0 : wr.cell? ⟨w.heap.size, 0, none⟩ = some (.slice v.A0 d.fields.length v.c0) := HK.out.cell 0
              have hk1 : wr.cell? ⟨w.heap.size, 1, none⟩ = some (.slice v.A1 d.infos.length v.c1) := HK.out.cell 1
              have hk2 : wr.cell? ⟨w.heap.size, 2, none⟩ = some (.slice v.A2 d.marks.length v.c2) := HK.out.cell 2
              have hk3 : wr.cell? ⟨w.heap.size, 3, none⟩ = some (.slice v.A3 d.states.length v.c3) := HK.out.cell 3
              have hk4 : wr.cell? ⟨w.heap.size, 4, none⟩ = some (.slice v.A4 d.frozen.length v.c4) := HK.out.cell 4
              have HVr := Lib.hid (HV.out.below HB.out)
              have HG := Lib.hid (ref13_Good wr v d HVr.out hl hl3 HR.out)
              have hbf : bg2 d l l.length = false := HBJ.out
              clear hbf
              go_wp2_with fail
              refine HG.out.mono ?_
              rintro e w1 ⟨r, rfl, hri, hb1⟩
              have HB1' := Lib.hid (HB.out.trans (hb1.mono HB.out.size))
              have HK1 := Lib.hid (HK.out.below hb1 HK.out.lt)
              have HRI := Lib.hid hri
              clear hri hb1 HG HB HK hk0 hk1 hk2 hk3 hk4
              have hk3 : w1.cell? ⟨w.heap.size, 3, none⟩ = some (.slice v.A3 d.states.length v.c3) := HK1.out.cell 3
              cases r with
              | false =>
                have hs := chk_form HBJ.out (.inl (fun h => by have := HRI.out.2 h; cases this))
                rw [hs] at HQ'
                go_wp2
                exact HQ'.out _ _ ⟨rfl, HB1'.out⟩
              | true =>
                by_cases hll : l.length = d.states.length
                case neg =>
                  have hs := chk_form HBJ.out (.inr hll)
                  have hne : ((l.length : Int) != (d.states.length : Int)) = true := by rw [bne_iff_ne]; omega
                  rw [hs] at HQ'
                  clear hs
                  go_wp2
                  exact HQ'.out _ _ ⟨rfl, HB1'.out⟩
                have HLL := Lib.hid hll
                have hnn : ((l.length : Int) != (d.states.length : Int)) = false := by rw [bne_eq_false_iff_eq]; omega
                have HNN := Lib.hid hnn
                have HYF := Lib.hid (HRI.out.1 rfl)
                clear HRI
                go_wp2
                clear hll hnn hk3
                go_loopw [8] (fun k wr => ∃ j : Nat, j ≤ l.length ∧ k = .int .i64 j ∧ (∀ x ∈ l.take j, x.p.Fits d) ∧ Below w.heap.size w wr ∧ Blk wr w.heap.size TRW3 (v.cells d)) (fun k _ => l.length - (intOf k).toNat)
                case atStart => exact ⟨0, Nat.zero_le _, by simp, by simp, HB1'.out, HK1.out⟩
                case round =>
                  clear HB1' HK1
                  obtain ⟨j, hj, rfl, hfi, hb, hk⟩ := hrel
                  have HB := Lib.hid hb
                  have HK := Lib.hid hk
                  have HFI := Lib.hid hfi
                  clear hb hk hfi
                  have hll := HLL.out
                  by_cases hlt : j < l.length
                  · obtain ⟨pb, po, hA, p0, p1, p2, p3, p4, p5, p6⟩ := HP.out.at_ hlt
                    have q0 := pw_cell_below HB.out p0
                    have q1 := pw_cell_below HB.out p1
                    have q2 := pw_cell_below HB.out p2
                    have q3 := pw_cell_below HB.out p3
                    have q4 := pw_cell_below HB.out p4
                    have q5 := pw_cell_below HB.out p5
                    have q6 := pw_cell_below HB.out p6
                    have hk0 : wr.cell? ⟨w.heap.size, 0, none⟩ = some (.slice v.A0 d.fields.length v.c0) := HK.out.cell 0
                    have hk1 : wr.cell? ⟨w.heap.size, 1, none⟩ = some (.slice v.A1 d.infos.length v.c1) := HK.out.cell 1
                    have hk2 : wr.cell? ⟨w.heap.size, 2, none⟩ = some (.slice v.A2 d.marks.length v.c2) := HK.out.cell 2
                    have hk3 : wr.cell? ⟨w.heap.size, 3, none⟩ = some (.slice v.A3 d.states.length v.c3) := HK.out.cell 3
                    have hk4 : wr.cell? ⟨w.heap.size, 4, none⟩ = some (.slice v.A4 d.frozen.length v.c4) := HK.out.cell 4
                    have hrl := HL5.out _ (List.getElem_mem hlt)
                    have HXR := Lib.hid (HP.out.reads _ (List.getElem_mem hlt))
                    have HMx := Lib.hid (List.getElem_mem hlt)
                    have HST := Lib.hid (all_take (P := fun x : PX => x.p.Fits d) hlt HFI.out)
                    clear p0 p1 p2 p3 p4 p5 p6 HFI
                    generalize l[j] = x at *
                    obtain ⟨p, B0, k0, B1, k1, B2, k2⟩ := x
                    simp only at q0 q1 q2 q3 q4 q5 q6 hrl
                    have HVr := Lib.hid (fun w' (hb : Below w.heap.size w w') => HV.out.below hb)
                    have HXr := Lib.hid (fun w' (hb : Below w.heap.size w w') => HXR.out.below hb)
                    subst hA
                    have HB2 := Lib.hid HB.out.drew
                    have HK2 := Lib.hid HK.out.drew
                    have HFT := Lib.hid (ref13_fits wr.drew v d ⟨p, B0, k0, B1, k1, B2, k2⟩ (HVr.out _ HB2.out) (HXr.out _ HB2.out) hl hl3 HR.out hrl)
                    go_wp2_with fail
                    refine wp_region_still_tail 5 (by kernel_rfl) (by kernel_rfl) ?_
                    simp only [List.take_succ_cons, List.take_zero, List.drop_succ_cons, List.drop_zero]
                    iterate 5 still_step
                    refine wpStill_nil ?_
                    change wpList _ _ _ _ _ wr.drew
                    go_wp2_with fail
                    refine HFT.out.mono ?_
                    rintro e w2 ⟨r, rfl, hri, hb1⟩
                    have HB3 := Lib.hid (HB2.out.trans (hb1.mono HB2.out.size))
                    have HK3 := Lib.hid (HK2.out.below hb1 HK2.out.lt)
                    have HRI := Lib.hid hri
                    clear hri hb1 HFT HB2 HK2 q0 q1 q2 q3 q4 q5 q6 hk0 hk1 hk2 hk3 hk4 HVr HXr
                    cases r with
                    | false =>
                      have hs := chk_not HBJ.out HYF.out HLL.out HMx.out (fun h => by have := HRI.out.2 h; cases this)
                      rw [hs] at HQ'
                      clear hs
                      go_wp2
                      exact HQ'.out _ _ ⟨rfl, HB3.out⟩
                    | true =>
                      have HT := Lib.hid (HST.out (HRI.out.1 rfl))
                      clear HST HRI
                      go_wp2
                      go_roundw
                      case rel => exact ⟨j + 1, by omega, by go_num, HT.out, HB3.out, HK3.out⟩
                      case measure => simp [intOf]; omega
                  · have hje : j = l.length := by omega
                    subst hje
                    have hs := chk_fits HBJ.out HYF.out HLL.out (all_len HFI.out)
                    rw [hs] at HQ'
                    clear hs
                    go_wp2
                    exact HQ'.out _ _ ⟨rfl, HB.out⟩
end Go.Proofs.YtphhdmopfmelbaaGreat

/-
  A region that draws its order, of which all operations but a last one make memory alone: each is shown once. No program in sight.
-/
namespace Go.Proofs.YtphhdmopfmelbaaGreat
open Go.RowKit Go.Proofs.YtphhdmopfmelbaaGreatW.PrintWords Go.Proofs.YtphhdmopfmelbaaGreatW.PrintLast
set_option linter.unusedVariables false
set_option linter.unusedSimpArgs false

/-- All that each operation waits for, as bits. -/
def bitsOf (T : List (List Nat × List Nat)) : List Nat := T.foldl (fun acc r => acc ++ [r.1.foldl (fun m n => m ||| (1 <<< n) ||| acc.getD n 0) 0]) []
def setV (V : Nat → Value) (i : Nat) (v : Value) : Nat → Value := fun j => if j = i then v else V j
theorem setV_self (V : Nat → Value) (i : Nat) (v : Value) : setV V i v i = v := by simp [setV]
theorem setV_ne (V : Nat → Value) {i j : Nat} (v : Value) (h : j ≠ i) : setV V i v j = V j := by simp [setV, h]
/-- The growing operations with where their values go. -/
def vrows (D : List (Nat × Tmp)) (V : Nat → Value) : List (Nat × Tmp × Value) := D.map fun e => (e.1, e.2, V e.1)
theorem vrows_set {D : List (Nat × Tmp)} (hD : (D.map (·.1)).Nodup) (V : Nat → Value) {k i : Nat} {t : Tmp} (hk : D[k]? = some (i, t)) (v : Value) : (vrows D V).set k (i, t, v) = vrows D (setV V i v) := by
  apply List.ext_getElem?
  intro j
  by_cases hj : j = k
  · subst hj
    have hl := (List.getElem?_eq_some_iff.1 hk).1
    rw [List.getElem?_set_self (by simpa [vrows] using hl)]
    simp [vrows, hk, setV_self]
  · rw [List.getElem?_set_ne (Ne.symm hj)]
    simp only [vrows, List.getElem?_map]
    cases he : D[j]? with
    | none => rfl
    | some e =>
      have : e.1 ≠ i := fun h => hj (by
        have h1 : (D.map (·.1))[j]? = some i := by simp [he, h]
        have h2 : (D.map (·.1))[k]? = some i := by simp [hk]
        obtain ⟨l1, e1⟩ := List.getElem?_eq_some_iff.1 h1
        obtain ⟨l2, e2⟩ := List.getElem?_eq_some_iff.1 h2
        exact (List.getElem_inj hD).1 (e1.trans e2.symm))
      simp [setV_ne _ _ this]

/-- The block of what an owner holds. -/
def ob (ow : Nat → Bool) (V : Nat → Value) (i : Nat) : Option Nat := if ow i = true then (V i).ownBlock else none
section
variable {P : Program} {ops : Array Oper} {Q : Exit → Act → World → Prop} {md : Region.Mode} {T : Bool × List (List Nat × List Nat)} {ow : Nat → Bool}
/-- What holds while they grow. -/
structure GrowI (ow : Nat → Bool) (a0 : Act) (w0 : World) (B : List Nat) (D : List (Nat × Tmp)) (ch : Nat → Nat) (Pr : Nat → (Nat → Value) → World → Prop) (b : Nat → Bool) (a : Act) (w : World) (V : Nat → Value) : Prop where
  frame : a = putSel a0 b (vrows D V)
  below : Below w0.heap.size w0 w
  pr : ∀ e ∈ D, b e.1 = true → Pr e.1 V w
  lt : ∀ e ∈ D, b e.1 = true → ∀ k, ob ow V e.1 = some k → w0.heap.size ≤ k ∧ k < w.heap.size
  apart : ∀ e ∈ D, ∀ e' ∈ D, b e.1 = true → b e'.1 = true → ch e.1 ≠ ch e'.1 → ∀ k, ob ow V e.1 = some k → ob ow V e'.1 ≠ some k
/-- One operation's step. -/
def GrowStep (ow : Nat → Bool) (P : Program) (ops : Array Oper) (Q : Exit → Act → World → Prop) (a0 : Act) (w0 : World) (B : List Nat) (D : List (Nat × Tmp)) (ch : Nat → Nat) (Pr : Nat → (Nat → Value) → World → Prop) (e : Nat × Tmp) : Prop :=
  ∀ V a w, (∀ e' ∈ D, (B.getD e.1 0).testBit e'.1 = true → a.tmps[e'.2]? = some (V e'.1) ∧ Pr e'.1 V w ∧ ∀ k, ob ow V e'.1 = some k → w0.heap.size ≤ k ∧ k < w.heap.size) → (∀ s, (∀ e' ∈ D, e'.2 ≠ s) → a.tmps[s]? = a0.tmps[s]?) → Below w0.heap.size w0 w →
    ∃ oi, ops[e.1]? = some oi ∧ oi.dst = some e.2 ∧ ∀ K : Act → World → Prop,
      Shut (∀ v w', Below w.heap.size w w' → Pr e.1 (setV V e.1 v) w' → (ow e.1 = true → ∀ k, v.ownBlock = some k → k < w'.heap.size ∧ (w.heap.size ≤ k ∨ ∃ e' ∈ D, (B.getD e.1 0).testBit e'.1 = true ∧ ch e'.1 = ch e.1 ∧ ob ow V e'.1 = some k)) → K (a.put (some e.2) v) w') →
      if Region.wanted oi (yielded ops a.tmps) = true then Oper.wp P oi a w K Q else K (a.put oi.dst undef) w

theorem putSel_at {b : Nat → Bool} {D : List (Nat × Tmp)} (hD2 : (D.map (·.2)).Nodup) {V : Nat → Value} {a0 : Act} {i : Nat} {t : Tmp} (he : (i, t) ∈ D) (hb : b i = true) (ht : t < a0.tmps.size) : (putSel a0 b (vrows D V)).tmps[t]? = some (V i) := by
  obtain ⟨k, hk⟩ := List.getElem?_of_mem he
  refine putSel_on (e := (i, t, V i)) k (by simp [vrows, hk]) ?_ hb (by rw [Nat.ble_eq]; exact ht)
  rw [List.all_eq_true]
  intro x hx
  obtain ⟨j, hj⟩ := List.getElem?_of_mem hx
  rw [List.getElem?_drop] at hj
  simp only [vrows, List.getElem?_map] at hj
  obtain ⟨y, hy, rfl⟩ := Option.map_eq_some_iff.1 hj
  simp only [Bool.not_eq_true', beq_eq_false_iff_ne]
  intro h
  have h1 : (D.map (·.2))[k + 1 + j]? = some t := by simp [hy, h]
  have h2 : (D.map (·.2))[k]? = some t := by simp [hk]
  obtain ⟨l1, e1⟩ := List.getElem?_eq_some_iff.1 h1
  obtain ⟨l2, e2⟩ := List.getElem?_eq_some_iff.1 h2
  have := (List.getElem_inj hD2).1 (e1.trans e2.symm)
  omega
theorem putSel_out {b : Nat → Bool} {D : List (Nat × Tmp)} {V : Nat → Value} {a0 : Act} {s : Tmp} (h : ∀ e ∈ D, e.2 ≠ s) : (putSel a0 b (vrows D V)).tmps[s]? = a0.tmps[s]? := by
  refine putSel_off ?_
  rw [List.all_eq_true]
  intro x hx
  obtain ⟨e, he, rfl⟩ := List.mem_map.1 hx
  simpa using h e he
theorem grow_step {a0 : Act} {w0 : World} {B : List Nat} {D : List (Nat × Tmp)} {ch : Nat → Nat} {Pr : Nat → (Nat → Value) → World → Prop} {b : Nat → Bool} {a : Act} {w : World} {V : Nat → Value}
    (hD : (D.map (·.1)).Nodup) (hD2 : (D.map (·.2)).Nodup) (hsz : ∀ e ∈ D, e.2 < a0.tmps.size)
    (dep : ∀ e ∈ D, ∀ V V' w, (∀ j, (j = e.1 ∨ (B.getD e.1 0).testBit j = true) → V j = V' j) → Pr e.1 V w → Pr e.1 V' w) (stab : ∀ e ∈ D, ∀ V w w', Pr e.1 V w → Below w.heap.size w w' → Pr e.1 V w')
    {e : Nat × Tmp} (he : e ∈ D) (hs : GrowStep ow P ops Q a0 w0 B D ch Pr e) (h : GrowI ow a0 w0 B D ch Pr b a w V) (hb : b e.1 = false)
    (hon : ∀ e' ∈ D, (B.getD e.1 0).testBit e'.1 = true → b e'.1 = true) (hoff : ∀ e' ∈ D, (B.getD e'.1 0).testBit e.1 = true → b e'.1 = false) :
    ∃ oi, ops[e.1]? = some oi ∧ ∀ K : Act → World → Prop, Shut (∀ a' w', (∃ V', GrowI ow a0 w0 B D ch Pr (up b e.1) a' w' V') → K a' w') → if Region.wanted oi (yielded ops a.tmps) = true then Oper.wp P oi a w K Q else K (a.put oi.dst undef) w := by
  obtain ⟨oi, h1, h2, h3⟩ := hs V a w (fun e' he' hbit => by
      have hb' := hon e' he' hbit
      exact ⟨by rw [h.frame]; exact putSel_at hD2 he' hb' (hsz e' he'), h.pr e' he' hb', h.lt e' he' hb'⟩) (fun s hs => by rw [h.frame]; exact putSel_out hs) h.below
  refine ⟨oi, h1, fun K hK => h3 K fun v w' hbl hpr hown => hK _ _ ⟨setV V e.1 v, ?_⟩⟩
  have hw0 : w0.heap.size ≤ w.heap.size := h.below.size
  have hne : ∀ e' ∈ D, b e'.1 = true → e'.1 ≠ e.1 := fun e' _ hb' h => by rw [h, hb] at hb'; cases hb'
  have hup : ∀ e' ∈ D, up b e.1 e'.1 = true → e' = e ∨ (e'.1 ≠ e.1 ∧ b e'.1 = true) := fun e' he' hu => by
    by_cases hh : e'.1 = e.1
    · left
      obtain ⟨k, hk⟩ := List.getElem?_of_mem he
      obtain ⟨k', hk'⟩ := List.getElem?_of_mem he'
      have g1 : (D.map (·.1))[k]? = some e.1 := by simp [hk]
      have g2 : (D.map (·.1))[k']? = some e.1 := by simp [hk', hh]
      obtain ⟨l1, e1⟩ := List.getElem?_eq_some_iff.1 g1
      obtain ⟨l2, e2⟩ := List.getElem?_eq_some_iff.1 g2
      have := (List.getElem_inj hD).1 (e1.trans e2.symm)
      subst this
      rw [hk] at hk'
      exact (Option.some.inj hk').symm
    · exact .inr ⟨hh, by rwa [up_ne hh] at hu⟩
  have hself : ∀ k, ob ow (setV V e.1 v) e.1 = some k → ow e.1 = true ∧ v.ownBlock = some k := fun k hk => by
    unfold ob at hk
    rw [setV_self] at hk
    split at hk
    · exact ⟨‹_›, hk⟩
    · cases hk
  have hother : ∀ j, j ≠ e.1 → ob ow (setV V e.1 v) j = ob ow V j := fun j hj => by unfold ob; rw [setV_ne V v hj]
  have hownlt : ow e.1 = true → ∀ k, v.ownBlock = some k → w0.heap.size ≤ k ∧ k < w'.heap.size := fun ho k hk => by
    obtain ⟨hlt, hx⟩ := hown ho k hk
    refine ⟨?_, hlt⟩
    rcases hx with hx | ⟨e', he', hbit, _, hk'⟩
    · omega
    · exact (h.lt e' he' (hon e' he' hbit) k hk').1
  have hap : ow e.1 = true → ∀ e' ∈ D, b e'.1 = true → ch e.1 ≠ ch e'.1 → ∀ k, v.ownBlock = some k → ob ow V e'.1 ≠ some k := fun ho e' he' hb' hch k hk hk' => by
    rcases (hown ho k hk).2 with hx | ⟨e2, he2, hbit, hc2, hk2⟩
    · have := (h.lt e' he' hb' k hk').2; omega
    · exact h.apart e2 he2 e' he' (hon e2 he2 hbit) hb' (by rw [hc2]; exact hch) k hk2 hk'
  refine ⟨?_, h.below.trans (hbl.mono hw0), fun e' he' hu => ?_, fun e' he' hu k hk => ?_, fun e' he' e2 he2 hu hu2 hch k hk => ?_⟩
  · rw [h.frame]
    obtain ⟨k, hk⟩ := List.getElem?_of_mem he
    refine putSel_upk (v0 := V e.1) k hb (by simp [vrows, hk]) (vrows_set hD V hk v) ?_
    rw [List.all_eq_true]
    intro x hx
    have key : ∀ j, j ≠ k → ∀ y, D[j]? = some y → (!(y.1 == e.1) && !(y.2 == e.2)) = true := fun j hj y hy => by
      simp only [Bool.and_eq_true, Bool.not_eq_true', beq_eq_false_iff_ne]
      constructor
      · intro hh
        have g1 : (D.map (·.1))[k]? = some e.1 := by simp [hk]
        have g2 : (D.map (·.1))[j]? = some e.1 := by simp [hy, hh]
        obtain ⟨l1, e1⟩ := List.getElem?_eq_some_iff.1 g1
        obtain ⟨l2, e2⟩ := List.getElem?_eq_some_iff.1 g2
        exact hj ((List.getElem_inj hD).1 (e1.trans e2.symm)).symm
      · intro hh
        have g1 : (D.map (·.2))[k]? = some e.2 := by simp [hk]
        have g2 : (D.map (·.2))[j]? = some e.2 := by simp [hy, hh]
        obtain ⟨l1, e1⟩ := List.getElem?_eq_some_iff.1 g1
        obtain ⟨l2, e2⟩ := List.getElem?_eq_some_iff.1 g2
        exact hj ((List.getElem_inj hD2).1 (e1.trans e2.symm)).symm
    rcases List.mem_append.1 hx with hx | hx
    · obtain ⟨j, hj⟩ := List.getElem?_of_mem hx
      rw [List.getElem?_take] at hj
      split at hj
      · simp only [vrows, List.getElem?_map] at hj
        obtain ⟨y, hy, rfl⟩ := Option.map_eq_some_iff.1 hj
        exact key j (by omega) y hy
      · cases hj
    · obtain ⟨j, hj⟩ := List.getElem?_of_mem hx
      rw [List.getElem?_drop] at hj
      simp only [vrows, List.getElem?_map] at hj
      obtain ⟨y, hy, rfl⟩ := Option.map_eq_some_iff.1 hj
      exact key _ (by omega) y hy
  · rcases hup e' he' hu with rfl | ⟨hh, hb'⟩
    · exact hpr
    · refine dep e' he' V _ w' (fun j hj => (setV_ne V v (fun hji => ?_)).symm) (stab e' he' V w w' (h.pr e' he' hb') hbl)
      rcases hj with hj | hj
      · exact hh (hj.symm.trans hji)
      · rw [hji] at hj
        have := hoff e' he' hj
        rw [hb'] at this; cases this
  · rcases hup e' he' hu with rfl | ⟨hh, hb'⟩
    · exact hownlt (hself k hk).1 k (hself k hk).2
    · rw [hother _ hh] at hk
      have := h.lt e' he' hb' k hk
      have := hbl.size
      omega
  · rcases hup e' he' hu with rfl | ⟨hh, hb'⟩
    · rcases hup e2 he2 hu2 with rfl | ⟨hh2, hb2⟩
      · exact absurd rfl hch
      · rw [hother _ hh2]
        exact hap (hself k hk).1 e2 he2 hb2 hch k (hself k hk).2
    · rw [hother _ hh] at hk
      rcases hup e2 he2 hu2 with rfl | ⟨hh2, hb2⟩
      · intro hk2
        exact hap (hself k hk2).1 e' he' hb' (Ne.symm hch) k (hself k hk2).2 hk
      · rw [hother _ hh2]
        exact h.apart e' he' e2 he2 hb' hb2 hch k hk

/-- The operations behind them, one behind the other. -/
def seqWp (P : Program) (ops : Array Oper) (Q : Exit → Act → World → Prop) : List Nat → Act → World → Prop
  | [], a, w => Q .normal a w
  | i :: r, a, w => ∃ oi, ops[i]? = some oi ∧ if Region.wanted oi (yielded ops a.tmps) = true then Oper.wp P oi a w (seqWp P ops Q r) Q else seqWp P ops Q r (a.put oi.dst undef) w
theorem seq_value {i : Nat} {r : List Nat} {oi : Oper} {N : Tmp} {a : Act} {w w1 : World} (v : Value) (ho : ops[i]? = some oi) (hg : oi.guard = none) (hN : oi.dst = some N) (hrun : (execOp a.eval oi).run P w = .ok (.value v) w1)
    (h : seqWp P ops Q r (a.put (some N) v) w1) : seqWp P ops Q (i :: r) a w := by
  refine ⟨oi, ho, ?_⟩
  rw [if_pos (by simp [Region.wanted, hg])]
  unfold Oper.wp
  rw [hrun]
  show seqWp P ops Q r (a.put oi.dst v) w1
  rw [hN]
  exact h
theorem seq_skip {i : Nat} {r : List Nat} {oi : Oper} {a : Act} {w w1 : World} (ho : ops[i]? = some oi) (hg : oi.guard = none) (hN : oi.dst = none) (hrun : (execOp a.eval oi).run P w = .ok .skip w1)
    (h : seqWp P ops Q r a w1) : seqWp P ops Q (i :: r) a w := by
  refine ⟨oi, ho, ?_⟩
  rw [if_pos (by simp [Region.wanted, hg])]
  unfold Oper.wp
  rw [hrun]
  show seqWp P ops Q r (a.put oi.dst undef) w1
  rw [hN]
  exact h
theorem seq_nil {a : Act} {w : World} (h : wpList P #[] Q [] a w) : seqWp P ops Q [] a w := h
/-- Each waits for those ahead of it. -/
def pairB (B : List Nat) : List Nat → Bool
  | [] => true
  | i :: r => (r.all fun j => (B.getD j 0).testBit i) && pairB B r
theorem pairB_mem {B : List Nat} : ∀ {l pre rest : List Nat} {i j : Nat}, pairB B l = true → l = pre ++ i :: rest → j ∈ rest → (B.getD j 0).testBit i = true
  | [], pre, rest, i, j, _, h, _ => by simp at h
  | x :: l, [], rest, i, j, hp, h, hj => by
    simp only [List.nil_append, List.cons.injEq] at h
    obtain ⟨rfl, rfl⟩ := h
    simp only [pairB, Bool.and_eq_true, List.all_eq_true] at hp
    exact hp.1 j hj
  | x :: l, y :: pre, rest, i, j, hp, h, hj => by
    simp only [List.cons_append, List.cons.injEq] at h
    simp only [pairB, Bool.and_eq_true] at hp
    exact pairB_mem hp.2 h.2 hj
/-- The whole: D's operations grow, 'tail' are those behind them all, one behind the other. -/
theorem grow_region {l : Array Bool} {fuel : Nat} {a0 : Act} {w0 : World} {B : List Nat} (D : List (Nat × Tmp)) (tail : List Nat) (ow : Nat → Bool) (ch : Nat → Nat) (Pr : Nat → (Nat → Value) → World → Prop) (hT : rtab md ops = T) (hB : bitsOf T.2 = B) (hw : waitsOk T.2 B = true) (hk : baseOk T.2 (D.map (·.1) ++ tail) = true)
    (hl : (lof T.2.length (D.map (·.1) ++ tail) (fun _ => false) == l.toList && (D.map (·.1) ++ tail).length == fuel) = true)
    (hD2 : decide (D.map (·.2)).Nodup = true) (hsz : (D.all fun e => decide (e.2 < a0.tmps.size)) = true) (hlast : (tail.all fun t => D.all fun e => (B.getD t 0).testBit e.1) = true) (hpair : (pairB B tail && !tail.isEmpty) = true)
    (dep : ∀ e ∈ D, ∀ V V' w, (∀ j, (j = e.1 ∨ (B.getD e.1 0).testBit j = true) → V j = V' j) → Pr e.1 V w → Pr e.1 V' w) (stab : ∀ e ∈ D, ∀ V w w', Pr e.1 V w → Below w.heap.size w w' → Pr e.1 V w')
    (hs : ∀ e ∈ D, GrowStep ow P ops Q a0 w0 B D ch Pr e)
    (hfin : ∀ V a w, a = putSel a0 (fun _ => true) (vrows D V) → Below w0.heap.size w0 w → (∀ e ∈ D, Pr e.1 V w) → (∀ e ∈ D, ∀ e' ∈ D, ch e.1 ≠ ch e'.1 → ∀ k, ob ow V e.1 = some k → ob ow V e'.1 ≠ some k) → (∀ e ∈ D, ∀ k, ob ow V e.1 = some k → w0.heap.size ≤ k ∧ k < w.heap.size) →
      seqWp P ops Q tail a w) :
    wpAnyLast P md ops Q (fun _ => True) [] fuel l a0 w0 := by
  have hnd := baseOk_nodup hk
  rw [List.nodup_append] at hnd
  have hD := hnd.1
  rw [Bool.and_eq_true] at hpair
  have hne : tail ≠ [] := by
    intro h
    rw [h] at hpair
    simp at hpair
  have hnl : ∀ e ∈ D, ∀ t ∈ tail, e.1 ≠ t := fun e he t ht h => hnd.2.2 e.1 (List.mem_map.2 ⟨e, he, rfl⟩) t ht h
  have hD2' := of_decide_eq_true hD2
  have hsz' : ∀ e ∈ D, e.2 < a0.tmps.size := fun e he => by simpa using List.all_eq_true.1 hsz e he
  have hlast' : ∀ t ∈ tail, ∀ e ∈ D, (B.getD t 0).testBit e.1 = true := fun t ht e he => List.all_eq_true.1 (List.all_eq_true.1 hlast t ht) e he
  have hO : ∀ e ∈ D, (D.map (·.1) ++ tail).contains e.1 = true := fun e he => by
    rw [List.contains_iff_mem]
    exact List.mem_append_left _ (List.mem_map.2 ⟨e, he, rfl⟩)
  have hOl : ∀ t ∈ tail, (D.map (·.1) ++ tail).contains t = true := fun t ht => by
    rw [List.contains_iff_mem]
    exact List.mem_append_right _ ht
  refine inv_ (B := B) (D.map (·.1) ++ tail) (fun b a w => ∃ pre rest, tail = pre ++ rest ∧ (∀ i ∈ pre, b i = true) ∧ (∀ i ∈ rest, b i = false) ∧ (pre = [] → ∃ V, GrowI ow a0 w0 B D ch Pr b a w V) ∧ (pre ≠ [] → seqWp P ops Q rest a w)) hT hw hk hl ?_ ?_ ?_
  · refine ⟨[], tail, rfl, fun _ h => absurd h (by simp), fun _ _ => rfl, fun _ => ⟨fun _ => undef, ?_, Below.refl _ _, fun _ _ h => absurd h (by simp), fun _ _ h => absurd h (by simp), fun _ _ _ _ h => absurd h (by simp)⟩, fun h => absurd rfl h⟩
    have : ∀ (L : List (Nat × Tmp × Value)) (a : Act), putSel a (fun _ => false) L = a := fun L => by
      induction L with
      | nil => intro a; rfl
      | cons x L ih => intro a; simp [putSel, ih]
    rw [this]
  · intro i hi b a w hI hb hon hoff
    obtain ⟨pre, rest, htail, hpre, hrest, hg, hq⟩ := hI
    rcases List.mem_append.1 hi with hi | hi
    · obtain ⟨e, he, rfl⟩ := List.mem_map.1 hi
      have hp0 : pre = [] := by
        cases pre with
        | nil => rfl
        | cons x pre =>
          have hx : x ∈ tail := by rw [htail]; simp
          have h1 := hpre x (by simp)
          rw [hoff x (by rw [hOl x hx, hlast' x hx e he]; rfl)] at h1
          cases h1
      obtain ⟨V, hV⟩ := hg hp0
      obtain ⟨oi, h1, h2⟩ := grow_step hD hD2' hsz' dep stab he (hs e he) hV hb (fun e' he' hbit => hon e'.1 (by rw [hO e' he', hbit]; rfl)) (fun e' he' hbit => hoff e'.1 (by rw [hO e' he', hbit]; rfl))
      refine ⟨oi, h1, fun K hK => h2 K fun a' w' hg => hK a' w' ⟨[], tail, rfl, fun _ h => absurd h (by simp), fun t ht => ?_, fun _ => hg, fun h => absurd rfl h⟩⟩
      rw [up_ne (hnl e he t ht).symm]
      subst hp0
      exact hrest t (by rw [← List.nil_append rest, ← htail]; exact ht)
    · have hir : i ∈ rest := by
        rw [htail] at hi
        rcases List.mem_append.1 hi with h | h
        · have := hpre i h
          rw [hb] at this; cases this
        · exact h
      cases rest with
      | nil => simp at hir
      | cons x rest =>
        have hxi : x = i := by
          rcases List.mem_cons.1 hir with h | h
          · exact h.symm
          · have h1 := pairB_mem hpair.1 htail h
            have hx : x ∈ tail := by rw [htail]; simp
            have h2 := hon x (by rw [hOl x hx, h1]; rfl)
            rw [hrest x (by simp)] at h2; cases h2
        subst hxi
        have hseq : seqWp P ops Q (x :: rest) a w := by
          by_cases hp0 : pre = []
          · obtain ⟨V, hV⟩ := hg hp0
            have hall : ∀ e ∈ D, b e.1 = true := fun e he => hon e.1 (by rw [hO e he, hlast' x hi e he]; rfl)
            have hfr : a = putSel a0 (fun _ => true) (vrows D V) := by
              rw [hV.frame]
              have : ∀ (L : List (Nat × Tmp × Value)) (a : Act), (∀ x ∈ L, b x.1 = true) → putSel a b L = putSel a (fun _ => true) L := fun L => by
                induction L with
                | nil => intro a _; rfl
                | cons x L ih =>
                  intro a hx
                  simp only [putSel, hx x (by simp), if_true]
                  exact ih _ (fun y hy => hx y (by simp [hy]))
              refine this _ _ (fun x hx => ?_)
              obtain ⟨e, he, rfl⟩ := List.mem_map.1 hx
              exact hall e he
            have h1 := hfin V a w hfr hV.below (fun e he => hV.pr e he (hall e he)) (fun e he e' he' hc => hV.apart e he e' he' (hall e he) (hall e' he') hc) (fun e he => hV.lt e he (hall e he))
            rw [htail, hp0] at h1
            exact h1
          · exact hq hp0
        obtain ⟨oi, ho, hstep⟩ := hseq
        have hpn : (pre ++ [x]) ≠ [] := by simp
        have hnt : (pre ++ x :: rest).Nodup := by rw [← htail]; exact hnd.2.1
        have hxr : x ∉ rest := fun h => by
          have := (List.nodup_append.1 hnt).2.1
          simp only [List.nodup_cons] at this
          exact this.1 h
        refine ⟨oi, ho, fun K hK => ?_⟩
        have key : ∀ a' w', seqWp P ops Q rest a' w' → K a' w' := fun a' w' h => hK.out a' w' ⟨pre ++ [x], rest, by rw [htail]; simp, fun j hj => by
            by_cases hjx : j = x
            · rw [hjx]; exact up_self _ _
            · rw [up_ne hjx]
              rcases List.mem_append.1 hj with hj | hj
              · exact hpre j hj
              · simp at hj; exact absurd hj hjx, fun j hj => by
            have hjx : j ≠ x := by
              intro hh
              rw [hh] at hj
              exact hxr hj
            rw [up_ne hjx]
            exact hrest j (by simp [hj]), fun h => absurd h hpn, fun _ => h⟩
        by_cases hwt : Region.wanted oi (yielded ops a.tmps) = true
        · rw [if_pos hwt] at hstep ⊢
          exact Oper.wp_mono key hstep
        · rw [if_neg hwt] at hstep ⊢
          exact key _ _ hstep
  · rintro b a w hall ⟨pre, rest, htail, hpre, hrest, hg, hq⟩
    have hr0 : rest = [] := by
      cases rest with
      | nil => rfl
      | cons x rest =>
        have h1 := hrest x (by simp)
        rw [hall x (hOl x (by rw [htail]; simp))] at h1
        cases h1
    subst hr0
    rw [List.append_nil] at htail
    exact hq (htail ▸ hne)
end

/-! ### append to a new empty slice -/
theorem run_append_lit {P : Program} {w : World} {s : Nat} (t ty e : TypeId) (z : Value) (bytes : Nat) (ht : P.underlying t = some (.slice e)) (hinfo : (P.info? e).map (fun i => (i.zero, i.size, i.bytes)) = some (some z, 1, bytes)) (hz : z.cells.size = 1) (hs : Blk w s e [])
    {A : Option Addr} {n c : Nat} {us : List Value} (hr : Row1 w A n us) (h1 : ∀ u ∈ us, u.oneCell' = true) (h63 : n ≤ maxLen) (hb : n * bytes ≤ 140737488355328) (base : Nat) (hbase : base ≤ s) :
    ∃ v w', (Builtin.append_ #[t, t] ty #[.slice (some ⟨s, 0, none⟩) 0 0, .slice A n c]).run P w = .ok v w' ∧ Below w.heap.size w w' ∧ w'.ownsRow base e 1 v n us ∧ ∀ k, v.ownBlock = some k → k < w'.heap.size ∧ (w.heap.size ≤ k ∨ k = s) := by
  obtain ⟨i0, hi, hzz⟩ := Option.map_eq_some_iff.1 hinfo
  simp only [Prod.mk.injEq] at hzz
  obtain ⟨hz0, hz1, hz2⟩ := hzz
  have hlt := hs.lt
  rcases Nat.eq_zero_or_pos n with rfl | hn
  · have hus : us = [] := List.eq_nil_of_length_eq_zero hr.1
    subst hus
    have hown : w.ownsRow base e 1 (.slice (some ⟨s, 0, none⟩) 0 0) 0 [] := ⟨by simp, .inr ⟨s, 0, #[], rfl, hbase, hs, Nat.le_refl _, by simp [maxLen], by simp, by simp⟩⟩
    have hrun : (Builtin.append_ #[t, t] ty #[.slice (some ⟨s, 0, none⟩) 0 0, .slice A 0 c]).run P w = .ok (.slice (some ⟨s, 0, none⟩) 0 0) w := by
      cases A with
      | none =>
        simp [Builtin.append_, run_underlying ht, sizeOf, typeInfo, hi, Builtin.lenOf, Builtin.firstCells, storeCells, loadCells, loadCellsFrom, hz1, Result.andThen]
      | some ad =>
        simp [Builtin.append_, run_underlying ht, sizeOf, typeInfo, hi, Builtin.lenOf, Builtin.firstCells, storeCells, loadCells, loadCellsFrom, hz1, Result.andThen]
    exact ⟨_, w, hrun, Below.refl _ _, hown, fun k hk => by
      simp [Value.ownBlock] at hk
      subst hk
      exact ⟨hlt, .inr rfl⟩⟩
  · obtain ⟨ad, rfl, hc⟩ := hr.2 hn
    obtain ⟨v, w', hrun, hown, hg⟩ := run_append_arg_grows (P := P) w t ty e i0 z 1 bytes ht hi hz0 hz1 hz2 hz (by decide) ⟨s, 0, none⟩ 0 0 [] (by simp) (by simp) ad n c us (by have := hr.1; omega) hc (by omega) (by omega) (by rw [Nat.zero_add]; exact hb)
    refine ⟨v, w', by simpa using hrun, ⟨hg.os, hg.tape, hg.output, hg.size, fun k hk => hg.block k hk (by simp)⟩, ?_, fun k hk => ?_⟩
    · have : w'.ownsRow w.heap.size e 1 v n us := by simpa using hown
      exact own_weaken this (by omega)
    · have := World.ownsRow.lt hown k hk
      exact ⟨this.2, .inl this.1⟩
end Go.Proofs.YtphhdmopfmelbaaGreat
