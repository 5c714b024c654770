/- Joined texts: Ref13U Ref13V Ref13W Ref13F. -/
import Derived.Test.YtphhdmopfmelbaaM8
import Derived.StillTailTactics

/- larchref13: Step, line by line. Written by p_step.py. -/
namespace Go.Proofs.Ytphhdmopfmelbaa
open Go.RowKit Go.Proofs.YtphhdmopfmelbaaW.PrintWords
set_option linter.unusedVariables false
set_option linter.unusedSimpArgs false


set_option maxHeartbeats 4000000 in
set_option maxRecDepth 100000 in
theorem ref13_Step4 (wb w : World) (bw hb : Nat) (d : WD) (x : PX) (fv iv mv sv zv : Value) (us : List Value) (scx : Int) (i : Nat) (hx : x.Reads wb) (h : StAt wb w w bw hb d fv iv mv sv zv us scx ⟨4, i⟩) (ok : StOk d x.p scx ⟨4, i⟩) :
    Calls Try.prog 32 #[.pointer (some ⟨bw, 0, none⟩), .pointer (some ⟨hb, 0, none⟩), x.val] w (StepPost wb w bw hb d x.p fv iv mv sv zv us scx ⟨4, i⟩) := by
  obtain ⟨p, B0, k0, B1, k1, B2, k2⟩ := x
  refine calls_hide fun Q HQ => ?_
  have HQ' := Lib.hid HQ
  have HX := Lib.hid hx
  have OK := Lib.hid (show StOk d p scx _ from ok)
  have hbx := (Below.refl w.heap.size w).alloc (Nat.le_refl _) (.cells #[.slice B0 p.V.length k0, .slice B1 p.infos.length k1, .slice B2 p.fin.length k2, .int .i64 p.at_, .int .i64 p.fld, .int .i64 p.old, .int .i64 p.new] 78)
  have HS0 := Lib.hid (h.more hbx)
  have hpb := Blk.new w 78 [.slice B0 p.V.length k0, .slice B1 p.infos.length k1, .slice B2 p.fin.length k2, .int .i64 p.at_, .int .i64 p.fld, .int .i64 p.old, .int .i64 p.new]
  have HPB := Lib.hid hpb
  have hlt0 := h.hlp.lt
  have hlt1 := h.box.lt
  have HNE := Lib.hid (show ¬ w.heap.size = hb ∧ ¬ w.heap.size = bw by constructor <;> omega)
  clear HQ hx h ok hpb hbx hlt0 hlt1
  go_enter Try.func32, Try.ntmps32
  have g0 := HPB.out.cell 0
  have g1 := HPB.out.cell 1
  have g2 := HPB.out.cell 2
  have g3 := HPB.out.cell 3
  have g4 := HPB.out.cell 4
  have g5 := HPB.out.cell 5
  have g6 := HPB.out.cell 6
  have h0 := HS0.out.hlp.cell 0
  have h1 := HS0.out.hlp.cell 1
  have h2 := HS0.out.hlp.cell 2
  have b0 := HS0.out.box.cell 0
  have b1 := HS0.out.box.cell 1
  have b2 := HS0.out.box.cell 2
  have b3 := HS0.out.box.cell 3
  have b4 := HS0.out.box.cell 4
  have f1 := HS0.out.hlp.free ⟨hb, 1, none⟩ rfl
  have f2 := HS0.out.hlp.free ⟨hb, 2, none⟩ rfl
  simp only [List.getElem?_cons_zero, List.getElem?_cons_succ] at g0 g1 g2 g3 g4 g5 g6 h0 h1 h2 b0 b1 b2 b3 b4
  skip
  have hs0 : 0 ≤ scx := OK.out.s0
  have hs1 : scx.toNat < d.states.length := by have := OK.out.s1; omega
  have hs2 : scx < d.states.length := OK.out.s1
  obtain ⟨ads, cs, es, hcs, hsets⟩ := HS0.out.out.atS hs1
  subst es
  clear hsets
  have HEQ : stepH d ⟨4, i⟩ p scx = (2, true, 0, ⟨4, i⟩, { d with states := d.states.set scx.toNat 2 }) := by
    unfold stepH; rw [if_neg (show ¬ (4 : Int) = 1 by decide)]; rw [if_neg (show ¬ (4 : Int) = 2 by decide)]; rw [if_neg (show ¬ (4 : Int) = 3 by decide)]; rw [if_pos rfl]
  unfold StepPost at HQ'
  rw [HEQ] at HQ'
  clear HEQ
  go_wp2_with fail
  generalize w.alloc (.cells #[.slice B0 p.V.length k0, .slice B1 p.infos.length k1, .slice B2 p.fin.length k2, .int .i64 p.at_, .int .i64 p.fld, .int .i64 p.old, .int .i64 p.new] 78) = w0 at *
  have HSy := Lib.hid HS0.out
  have HPy := Lib.hid HPB.out
  have HSw := Lib.hid (HSy.out.more (Below.refl w0.heap.size w0).drew)
  have HPw := Lib.hid (HPy.out.below (Below.refl w0.heap.size w0).drew HPy.out.lt)
  obtain ⟨adx, cx, ex, hcx, hsx⟩ := HSw.out.out.atS hs1
  obtain ⟨rfl, rfl⟩ : ads = adx ∧ cs = cx := by simp at ex; exact ex
  obtain ⟨hfx, hst⟩ := hsx _ HSw.out.out
  have HST := Lib.hid (HSw.out.oset (hst 2).1 (hst 2).2)
  have HPT := Lib.hid ((hst 2).2.blk HPw.out (HSw.out.apart HPw.out))
  clear ex hsx hst
  go_wp2_with fail
  refine wp_region_still_tail 9 (by kernel_rfl) (by kernel_rfl) ?_
  simp only [List.take_succ_cons, List.take_zero, List.drop_succ_cons, List.drop_zero]
  iterate 9 still_step
  refine wpStill_nil ?_
  change wpList _ _ _ _ _ w0.drew
  generalize w0.drew = wz at *
  go_wp2
  (try simp only [Exit.inBlock, Exit.then])
  refine bodyPost_ret (results_tmp3 rfl _ _ _) rfl ?_
  exact HQ'.out _ _ ⟨rfl, HST.out⟩

set_option maxHeartbeats 4000000 in
set_option maxRecDepth 100000 in
theorem ref13_Step5 (wb w : World) (bw hb : Nat) (d : WD) (x : PX) (fv iv mv sv zv : Value) (us : List Value) (scx : Int) (i : Nat) (hx : x.Reads wb) (h : StAt wb w w bw hb d fv iv mv sv zv us scx ⟨5, i⟩) (ok : StOk d x.p scx ⟨5, i⟩) :
    Calls Try.prog 32 #[.pointer (some ⟨bw, 0, none⟩), .pointer (some ⟨hb, 0, none⟩), x.val] w (StepPost wb w bw hb d x.p fv iv mv sv zv us scx ⟨5, i⟩) := by
  obtain ⟨p, B0, k0, B1, k1, B2, k2⟩ := x
  refine calls_hide fun Q HQ => ?_
  have HQ' := Lib.hid HQ
  have HX := Lib.hid hx
  have OK := Lib.hid (show StOk d p scx _ from ok)
  have hbx := (Below.refl w.heap.size w).alloc (Nat.le_refl _) (.cells #[.slice B0 p.V.length k0, .slice B1 p.infos.length k1, .slice B2 p.fin.length k2, .int .i64 p.at_, .int .i64 p.fld, .int .i64 p.old, .int .i64 p.new] 78)
  have HS0 := Lib.hid (h.more hbx)
  have hpb := Blk.new w 78 [.slice B0 p.V.length k0, .slice B1 p.infos.length k1, .slice B2 p.fin.length k2, .int .i64 p.at_, .int .i64 p.fld, .int .i64 p.old, .int .i64 p.new]
  have HPB := Lib.hid hpb
  have hlt0 := h.hlp.lt
  have hlt1 := h.box.lt
  have HNE := Lib.hid (show ¬ w.heap.size = hb ∧ ¬ w.heap.size = bw by constructor <;> omega)
  clear HQ hx h ok hpb hbx hlt0 hlt1
  go_enter Try.func32, Try.ntmps32
  have g0 := HPB.out.cell 0
  have g1 := HPB.out.cell 1
  have g2 := HPB.out.cell 2
  have g3 := HPB.out.cell 3
  have g4 := HPB.out.cell 4
  have g5 := HPB.out.cell 5
  have g6 := HPB.out.cell 6
  have h0 := HS0.out.hlp.cell 0
  have h1 := HS0.out.hlp.cell 1
  have h2 := HS0.out.hlp.cell 2
  have b0 := HS0.out.box.cell 0
  have b1 := HS0.out.box.cell 1
  have b2 := HS0.out.box.cell 2
  have b3 := HS0.out.box.cell 3
  have b4 := HS0.out.box.cell 4
  have f1 := HS0.out.hlp.free ⟨hb, 1, none⟩ rfl
  have f2 := HS0.out.hlp.free ⟨hb, 2, none⟩ rfl
  simp only [List.getElem?_cons_zero, List.getElem?_cons_succ] at g0 g1 g2 g3 g4 g5 g6 h0 h1 h2 b0 b1 b2 b3 b4
  skip
  have hs0 : 0 ≤ scx := OK.out.s0
  have hs1 : scx.toNat < d.frozen.length := by have := OK.out.s1; have := OK.out.e4; omega
  have hs2 : scx < d.frozen.length := by have := OK.out.s1; have := OK.out.e4; omega
  obtain ⟨adz, cz, ez, hcz, hsetz⟩ := HS0.out.out.atZ hs1
  subst ez
  clear hsetz
  have HEQ : stepH d ⟨5, i⟩ p scx = (2, false, 0, marksS p 0, { d with frozen := d.frozen.set scx.toNat true }) := by
    unfold stepH; rw [if_neg (show ¬ (5 : Int) = 1 by decide)]; rw [if_neg (show ¬ (5 : Int) = 2 by decide)]; rw [if_neg (show ¬ (5 : Int) = 3 by decide)]; rw [if_neg (show ¬ (5 : Int) = 4 by decide)]; rw [if_pos rfl]
  unfold StepPost at HQ'
  rw [HEQ] at HQ'
  clear HEQ
  go_wp2_with fail
  generalize w.alloc (.cells #[.slice B0 p.V.length k0, .slice B1 p.infos.length k1, .slice B2 p.fin.length k2, .int .i64 p.at_, .int .i64 p.fld, .int .i64 p.old, .int .i64 p.new] 78) = w0 at *
  have HSy := Lib.hid HS0.out
  have HPy := Lib.hid HPB.out
  have HSw := Lib.hid (HSy.out.more (Below.refl w0.heap.size w0).drew)
  have HPw := Lib.hid (HPy.out.below (Below.refl w0.heap.size w0).drew HPy.out.lt)
  obtain ⟨adx, cx, ex, hcx, hsx⟩ := HSw.out.out.atZ hs1
  obtain ⟨rfl, rfl⟩ : adz = adx ∧ cz = cx := by simp at ex; exact ex
  obtain ⟨hfx, hst⟩ := hsx _ HSw.out.out
  have HST := Lib.hid (HSw.out.oset (hst true).1 (hst true).2)
  have HPT := Lib.hid ((hst true).2.blk HPw.out (HSw.out.apart HPw.out))
  clear ex hsx hst
  have HS1 := Lib.hid (show StAt _ _ _ _ _ _ _ _ _ _ _ _ _ ⟨5, 0⟩ from HST.out.hset (fr_one rfl) (HST.out.hlp.set 2 (.int .i64 0)))
  have HP1 := Lib.hid (HPT.out.other ⟨hb, 2, none⟩ (.int .i64 0) (show ¬ _ = hb from HNE.out.1))
  go_wp2_with fail
  refine wp_region_still_tail 9 (by kernel_rfl) (by kernel_rfl) ?_
  simp only [List.take_succ_cons, List.take_zero, List.drop_succ_cons, List.drop_zero]
  iterate 9 still_step
  refine wpStill_nil ?_
  change wpList _ _ _ _ _ w0.drew
  generalize w0.drew = wz at *
  clear g0 g1 g2 g3 g4 g5 g6 h0 h1 h2 b0 b1 b2 b3 b4 f1 f2
  have yg0 := HPT.out.cell 0
  have yg1 := HPT.out.cell 1
  have yg2 := HPT.out.cell 2
  have yg3 := HPT.out.cell 3
  have yg4 := HPT.out.cell 4
  have yg5 := HPT.out.cell 5
  have yg6 := HPT.out.cell 6
  have yh0 := HST.out.hlp.cell 0
  have yh1 := HST.out.hlp.cell 1
  have yh2 := HST.out.hlp.cell 2
  have yb0 := HST.out.box.cell 0
  have yb1 := HST.out.box.cell 1
  have yb2 := HST.out.box.cell 2
  have yb3 := HST.out.box.cell 3
  have yb4 := HST.out.box.cell 4
  have yf1 := HST.out.hlp.free ⟨hb, 1, none⟩ rfl
  have yf2 := HST.out.hlp.free ⟨hb, 2, none⟩ rfl
  simp only [List.getElem?_cons_zero, List.getElem?_cons_succ] at yg0 yg1 yg2 yg3 yg4 yg5 yg6 yh0 yh1 yh2 yb0 yb1 yb2 yb3 yb4
  have zg0 := HP1.out.cell 0
  have zg1 := HP1.out.cell 1
  have zg2 := HP1.out.cell 2
  have zg3 := HP1.out.cell 3
  have zg4 := HP1.out.cell 4
  have zg5 := HP1.out.cell 5
  have zg6 := HP1.out.cell 6
  have zh0 := HS1.out.hlp.cell 0
  have zh1 := HS1.out.hlp.cell 1
  have zh2 := HS1.out.hlp.cell 2
  have zb0 := HS1.out.box.cell 0
  have zb1 := HS1.out.box.cell 1
  have zb2 := HS1.out.box.cell 2
  have zb3 := HS1.out.box.cell 3
  have zb4 := HS1.out.box.cell 4
  have zf1 := HS1.out.hlp.free ⟨hb, 1, none⟩ rfl
  have zf2 := HS1.out.hlp.free ⟨hb, 2, none⟩ rfl
  simp only [List.getElem?_cons_zero, List.getElem?_cons_succ] at zg0 zg1 zg2 zg3 zg4 zg5 zg6 zh0 zh1 zh2 zb0 zb1 zb2 zb3 zb4
  have HNX := Lib.hid (ref13_marks _ hb scx 5 0 ⟨p, B0, k0, B1, k1, B2, k2⟩ HS1.out.hlp (by show 0 ≤ p.V.length; have := OK.out.il; simp only at this; omega) wb HX.out HS1.out.below HS1.out.lh OK.out.fits.v2 (by show p.V.length < 1000000; have := OK.out.sz; omega))
  go_wp2_with fail
  refine HNX.out.mono ?_
  rintro e w9 ⟨rfl, hb9, hf9⟩
  have HS9 := Lib.hid (HS1.out.hset hf9 hb9)
  clear hb9 hf9 HNX
  go_wp2
  (try simp only [Exit.inBlock, Exit.then])
  refine bodyPost_ret (results_tmp3 rfl _ _ _) rfl ?_
  exact HQ'.out _ _ ⟨rfl, HS9.out⟩

set_option maxHeartbeats 4000000 in
set_option maxRecDepth 100000 in
theorem ref13_Step6 (wb w : World) (bw hb : Nat) (d : WD) (x : PX) (fv iv mv sv zv : Value) (us : List Value) (scx : Int) (i : Nat) (hx : x.Reads wb) (h : StAt wb w w bw hb d fv iv mv sv zv us scx ⟨6, i⟩) (ok : StOk d x.p scx ⟨6, i⟩) :
    Calls Try.prog 32 #[.pointer (some ⟨bw, 0, none⟩), .pointer (some ⟨hb, 0, none⟩), x.val] w (StepPost wb w bw hb d x.p fv iv mv sv zv us scx ⟨6, i⟩) := by
  obtain ⟨p, B0, k0, B1, k1, B2, k2⟩ := x
  refine calls_hide fun Q HQ => ?_
  have HQ' := Lib.hid HQ
  have HX := Lib.hid hx
  have OK := Lib.hid (show StOk d p scx _ from ok)
  have hbx := (Below.refl w.heap.size w).alloc (Nat.le_refl _) (.cells #[.slice B0 p.V.length k0, .slice B1 p.infos.length k1, .slice B2 p.fin.length k2, .int .i64 p.at_, .int .i64 p.fld, .int .i64 p.old, .int .i64 p.new] 78)
  have HS0 := Lib.hid (h.more hbx)
  have hpb := Blk.new w 78 [.slice B0 p.V.length k0, .slice B1 p.infos.length k1, .slice B2 p.fin.length k2, .int .i64 p.at_, .int .i64 p.fld, .int .i64 p.old, .int .i64 p.new]
  have HPB := Lib.hid hpb
  have hlt0 := h.hlp.lt
  have hlt1 := h.box.lt
  have HNE := Lib.hid (show ¬ w.heap.size = hb ∧ ¬ w.heap.size = bw by constructor <;> omega)
  clear HQ hx h ok hpb hbx hlt0 hlt1
  go_enter Try.func32, Try.ntmps32
  have g0 := HPB.out.cell 0
  have g1 := HPB.out.cell 1
  have g2 := HPB.out.cell 2
  have g3 := HPB.out.cell 3
  have g4 := HPB.out.cell 4
  have g5 := HPB.out.cell 5
  have g6 := HPB.out.cell 6
  have h0 := HS0.out.hlp.cell 0
  have h1 := HS0.out.hlp.cell 1
  have h2 := HS0.out.hlp.cell 2
  have b0 := HS0.out.box.cell 0
  have b1 := HS0.out.box.cell 1
  have b2 := HS0.out.box.cell 2
  have b3 := HS0.out.box.cell 3
  have b4 := HS0.out.box.cell 4
  have f1 := HS0.out.hlp.free ⟨hb, 1, none⟩ rfl
  have f2 := HS0.out.hlp.free ⟨hb, 2, none⟩ rfl
  simp only [List.getElem?_cons_zero, List.getElem?_cons_succ] at g0 g1 g2 g3 g4 g5 g6 h0 h1 h2 b0 b1 b2 b3 b4
  skip
  have hi : i < p.V.length := OK.out.ii (by first | exact .inl rfl | exact .inr (.inl rfl) | exact .inr (.inr rfl))
  obtain ⟨adv, hAv, hcv0⟩ := int_at HX.out.h0 hi
  have hcv := pw_cell_below HS0.out.below hcv0
  have hrb := OK.out.fits.hV _ (List.getElem_mem hi)
  have HR := Lib.hid (show p.V.getD i 0 = p.V[i] by simp [List.getD_eq_getElem?_getD, List.getElem?_eq_getElem hi])
  simp only at hAv hcv hrb
  generalize p.V[i] = r at *
  subst hAv
  have hr0 : 0 ≤ r := hrb.1
  have hr1 : r < d.fields.length := hrb.2
  have e1 := OK.out.e1
  have e2 := OK.out.e2
  clear hcv0 hrb
  have hrm : r.toNat < d.marks.length := by omega
  obtain ⟨adk, ck, ek, hck, hsetk⟩ := HS0.out.out.atM hrm
  have hr2 : r < d.marks.length := by omega
  subst ek
  clear hsetk e1 e2
  have HEQ : stepH d ⟨6, i⟩ p scx = (2, false, 0, marksS p (i + 1), { d with marks := d.marks.set r.toNat true }) := by
    unfold stepH; rw [if_neg (show ¬ (6 : Int) = 1 by decide)]; rw [if_neg (show ¬ (6 : Int) = 2 by decide)]; rw [if_neg (show ¬ (6 : Int) = 3 by decide)]; rw [if_neg (show ¬ (6 : Int) = 4 by decide)]; rw [if_neg (show ¬ (6 : Int) = 5 by decide)]; rw [if_pos rfl]; rw [HR.out]
  unfold StepPost at HQ'
  rw [HEQ] at HQ'
  clear HEQ
  go_wp2_with fail
  generalize w.alloc (.cells #[.slice (some adv) p.V.length k0, .slice B1 p.infos.length k1, .slice B2 p.fin.length k2, .int .i64 p.at_, .int .i64 p.fld, .int .i64 p.old, .int .i64 p.new] 78) = w0 at *
  have HSy := Lib.hid HS0.out
  have HPy := Lib.hid HPB.out
  have HSw := Lib.hid (HSy.out.more (Below.refl w0.heap.size w0).drew)
  have HPw := Lib.hid (HPy.out.below (Below.refl w0.heap.size w0).drew HPy.out.lt)
  obtain ⟨adx, cx, ex, hcx, hsx⟩ := HSw.out.out.atM hrm
  obtain ⟨rfl, rfl⟩ : adk = adx ∧ ck = cx := by simp at ex; exact ex
  obtain ⟨hfx, hst⟩ := hsx _ HSw.out.out
  have HST := Lib.hid (HSw.out.oset (hst true).1 (hst true).2)
  have HPT := Lib.hid ((hst true).2.blk HPw.out (HSw.out.apart HPw.out))
  clear ex hsx hst
  have HS1 := Lib.hid (show StAt _ _ _ _ _ _ _ _ _ _ _ _ _ ⟨6, i + 1⟩ from HST.out.hset (fr_one rfl) (HST.out.hlp.set 2 (.int .i64 ((i : Int) + 1))))
  have HP1 := Lib.hid (HPT.out.other ⟨hb, 2, none⟩ (.int .i64 ((i : Int) + 1)) (show ¬ _ = hb from HNE.out.1))
  go_wp2_with fail
  refine wp_region_still_tail 13 (by kernel_rfl) (by kernel_rfl) ?_
  simp only [List.take_succ_cons, List.take_zero, List.drop_succ_cons, List.drop_zero]
  iterate 13 still_step
  refine wpStill_nil ?_
  change wpList _ _ _ _ _ w0.drew
  generalize w0.drew = wz at *
  clear g0 g1 g2 g3 g4 g5 g6 h0 h1 h2 b0 b1 b2 b3 b4 f1 f2
  have yg0 := HPT.out.cell 0
  have yg1 := HPT.out.cell 1
  have yg2 := HPT.out.cell 2
  have yg3 := HPT.out.cell 3
  have yg4 := HPT.out.cell 4
  have yg5 := HPT.out.cell 5
  have yg6 := HPT.out.cell 6
  have yh0 := HST.out.hlp.cell 0
  have yh1 := HST.out.hlp.cell 1
  have yh2 := HST.out.hlp.cell 2
  have yb0 := HST.out.box.cell 0
  have yb1 := HST.out.box.cell 1
  have yb2 := HST.out.box.cell 2
  have yb3 := HST.out.box.cell 3
  have yb4 := HST.out.box.cell 4
  have yf1 := HST.out.hlp.free ⟨hb, 1, none⟩ rfl
  have yf2 := HST.out.hlp.free ⟨hb, 2, none⟩ rfl
  simp only [List.getElem?_cons_zero, List.getElem?_cons_succ] at yg0 yg1 yg2 yg3 yg4 yg5 yg6 yh0 yh1 yh2 yb0 yb1 yb2 yb3 yb4
  have zg0 := HP1.out.cell 0
  have zg1 := HP1.out.cell 1
  have zg2 := HP1.out.cell 2
  have zg3 := HP1.out.cell 3
  have zg4 := HP1.out.cell 4
  have zg5 := HP1.out.cell 5
  have zg6 := HP1.out.cell 6
  have zh0 := HS1.out.hlp.cell 0
  have zh1 := HS1.out.hlp.cell 1
  have zh2 := HS1.out.hlp.cell 2
  have zb0 := HS1.out.box.cell 0
  have zb1 := HS1.out.box.cell 1
  have zb2 := HS1.out.box.cell 2
  have zb3 := HS1.out.box.cell 3
  have zb4 := HS1.out.box.cell 4
  have zf1 := HS1.out.hlp.free ⟨hb, 1, none⟩ rfl
  have zf2 := HS1.out.hlp.free ⟨hb, 2, none⟩ rfl
  simp only [List.getElem?_cons_zero, List.getElem?_cons_succ] at zg0 zg1 zg2 zg3 zg4 zg5 zg6 zh0 zh1 zh2 zb0 zb1 zb2 zb3 zb4
  have hi64 : i < 1000000 := by have := OK.out.sz; omega
  have HNX := Lib.hid (ref13_marks _ hb scx 6 (i + 1) ⟨p, (some adv), k0, B1, k1, B2, k2⟩ HS1.out.hlp (by show (i + 1) ≤ p.V.length; omega) wb HX.out HS1.out.below HS1.out.lh OK.out.fits.v2 (by show p.V.length < 1000000; have := OK.out.sz; omega))
  go_wp2_with fail
  refine HNX.out.mono ?_
  rintro e w9 ⟨rfl, hb9, hf9⟩
  have HS9 := Lib.hid (HS1.out.hset hf9 hb9)
  clear hb9 hf9 HNX
  go_wp2
  (try simp only [Exit.inBlock, Exit.then])
  refine bodyPost_ret (results_tmp3 rfl _ _ _) rfl ?_
  exact HQ'.out _ _ ⟨rfl, HS9.out⟩
end Go.Proofs.Ytphhdmopfmelbaa

/- larchref13: Step, line by line. Written by p_step.py. -/
namespace Go.Proofs.Ytphhdmopfmelbaa
open Go.RowKit Go.Proofs.YtphhdmopfmelbaaW.PrintWords
set_option linter.unusedVariables false
set_option linter.unusedSimpArgs false


set_option maxHeartbeats 4000000 in
set_option maxRecDepth 100000 in
theorem ref13_Step7 (wb w : World) (bw hb : Nat) (d : WD) (x : PX) (fv iv mv sv zv : Value) (us : List Value) (scx : Int) (i : Nat) (hx : x.Reads wb) (h : StAt wb w w bw hb d fv iv mv sv zv us scx ⟨7, i⟩) (ok : StOk d x.p scx ⟨7, i⟩) :
    Calls Try.prog 32 #[.pointer (some ⟨bw, 0, none⟩), .pointer (some ⟨hb, 0, none⟩), x.val] w (StepPost wb w bw hb d x.p fv iv mv sv zv us scx ⟨7, i⟩) := by
  obtain ⟨p, B0, k0, B1, k1, B2, k2⟩ := x
  refine calls_hide fun Q HQ => ?_
  have HQ' := Lib.hid HQ
  have HX := Lib.hid hx
  have OK := Lib.hid (show StOk d p scx _ from ok)
  have hbx := (Below.refl w.heap.size w).alloc (Nat.le_refl _) (.cells #[.slice B0 p.V.length k0, .slice B1 p.infos.length k1, .slice B2 p.fin.length k2, .int .i64 p.at_, .int .i64 p.fld, .int .i64 p.old, .int .i64 p.new] 78)
  have HS0 := Lib.hid (h.more hbx)
  have hpb := Blk.new w 78 [.slice B0 p.V.length k0, .slice B1 p.infos.length k1, .slice B2 p.fin.length k2, .int .i64 p.at_, .int .i64 p.fld, .int .i64 p.old, .int .i64 p.new]
  have HPB := Lib.hid hpb
  have hlt0 := h.hlp.lt
  have hlt1 := h.box.lt
  have HNE := Lib.hid (show ¬ w.heap.size = hb ∧ ¬ w.heap.size = bw by constructor <;> omega)
  clear HQ hx h ok hpb hbx hlt0 hlt1
  go_enter Try.func32, Try.ntmps32
  have g0 := HPB.out.cell 0
  have g1 := HPB.out.cell 1
  have g2 := HPB.out.cell 2
  have g3 := HPB.out.cell 3
  have g4 := HPB.out.cell 4
  have g5 := HPB.out.cell 5
  have g6 := HPB.out.cell 6
  have h0 := HS0.out.hlp.cell 0
  have h1 := HS0.out.hlp.cell 1
  have h2 := HS0.out.hlp.cell 2
  have b0 := HS0.out.box.cell 0
  have b1 := HS0.out.box.cell 1
  have b2 := HS0.out.box.cell 2
  have b3 := HS0.out.box.cell 3
  have b4 := HS0.out.box.cell 4
  have f1 := HS0.out.hlp.free ⟨hb, 1, none⟩ rfl
  have f2 := HS0.out.hlp.free ⟨hb, 2, none⟩ rfl
  simp only [List.getElem?_cons_zero, List.getElem?_cons_succ] at g0 g1 g2 g3 g4 g5 g6 h0 h1 h2 b0 b1 b2 b3 b4
  skip
  have ha0 : 0 ≤ p.at_ := OK.out.fits.a.1
  have ha1 : p.at_ < p.V.length := OK.out.fits.a.2
  have hi : p.at_.toNat < p.V.length := by omega
  obtain ⟨adv, hAv, hcv0⟩ := int_at HX.out.h0 hi
  have hcv := pw_cell_below HS0.out.below hcv0
  have hrb := OK.out.fits.hV _ (List.getElem_mem hi)
  have HR := Lib.hid (show p.V.getD p.at_.toNat 0 = p.V[p.at_.toNat] by simp [List.getD_eq_getElem?_getD, List.getElem?_eq_getElem hi])
  have hff := OK.out.fits.f
  rw [HR.out] at hff
  simp only at hAv hcv hrb
  generalize p.V[p.at_.toNat] = r at *
  subst hAv
  have hr0 : 0 ≤ r := hrb.1
  have hr1 : r < d.fields.length := hrb.2
  have hrn : r.toNat < d.fields.length := by omega
  have hf0 : 0 ≤ p.fld := hff.1
  have hf1 : p.fld < (d.fields.getD r.toNat []).length := hff.2
  have hfn : p.fld.toNat < (d.fields.getD r.toNat []).length := by omega
  obtain ⟨adf, cf, adg, cg, ef, hcf, hcg, hsetf⟩ := HS0.out.out.atF hrn hfn
  have HSF := Lib.hid hsetf
  subst ef
  clear hcv0 hrb hff hsetf
  generalize hrow : d.fields.getD r.toNat [] = row at *
  have HROW := Lib.hid hrow
  clear hrow
  by_cases he : row.getD p.fld.toNat 0 = p.old
  · have HEQ : stepH d ⟨7, i⟩ p scx = (5, false, 0, ⟨8, i⟩, { d with fields := d.fields.set r.toNat (row.set p.fld.toNat p.new) }) := by
      unfold stepH; rw [if_neg (show ¬ (7 : Int) = 1 by decide)]; rw [if_neg (show ¬ (7 : Int) = 2 by decide)]; rw [if_neg (show ¬ (7 : Int) = 3 by decide)]; rw [if_neg (show ¬ (7 : Int) = 4 by decide)]; rw [if_neg (show ¬ (7 : Int) = 5 by decide)]; rw [if_neg (show ¬ (7 : Int) = 6 by decide)]; rw [if_pos rfl]; rw [show swgH d p = { d with fields := d.fields.set r.toNat (row.set p.fld.toNat p.new) } from by unfold swgH; simp only; rw [HR.out, HROW.out, if_pos he]]
    unfold StepPost at HQ'
    rw [HEQ] at HQ'
    clear HEQ
    rw [he] at hcg
    go_wp2
    generalize w.alloc (.cells #[.slice (some adv) p.V.length k0, .slice B1 p.infos.length k1, .slice B2 p.fin.length k2, .int .i64 p.at_, .int .i64 p.fld, .int .i64 p.old, .int .i64 p.new] 78) = w0 at *
    go_quiet (fail)
    revert nq
    intro n1
    go_wp2
    go_quiet (fail)
    revert nq
    intro n2
    have HY := Lib.hid (pw_below_drewN (pw_below_drewN (Below.refl w0.heap.size w0) n1) n2)
    generalize ((w0.drewN n1).drewN n2) = wy at *
    have HSy := Lib.hid (HS0.out.more HY.out)
    have HPy := Lib.hid (HPB.out.below HY.out HPB.out.lt)
    have HSw := Lib.hid (HSy.out.more (Below.refl wy.heap.size wy).drew)
    have HPw := Lib.hid (HPy.out.below (Below.refl wy.heap.size wy).drew HPy.out.lt)
    clear g0 g1 g2 g3 g4 g5 g6 h0 h1 h2 b0 b1 b2 b3 b4 f1 f2
    have g0 := HPy.out.cell 0
    have g1 := HPy.out.cell 1
    have g2 := HPy.out.cell 2
    have g3 := HPy.out.cell 3
    have g4 := HPy.out.cell 4
    have g5 := HPy.out.cell 5
    have g6 := HPy.out.cell 6
    have h0 := HSy.out.hlp.cell 0
    have h1 := HSy.out.hlp.cell 1
    have h2 := HSy.out.hlp.cell 2
    have b0 := HSy.out.box.cell 0
    have b1 := HSy.out.box.cell 1
    have b2 := HSy.out.box.cell 2
    have b3 := HSy.out.box.cell 3
    have b4 := HSy.out.box.cell 4
    have f1 := HSy.out.hlp.free ⟨hb, 1, none⟩ rfl
    have f2 := HSy.out.hlp.free ⟨hb, 2, none⟩ rfl
    simp only [List.getElem?_cons_zero, List.getElem?_cons_succ] at g0 g1 g2 g3 g4 g5 g6 h0 h1 h2 b0 b1 b2 b3 b4
    have hgy := pw_cell_below HY.out hcg
    obtain ⟨hfx, hst⟩ := HSF.out wy HSy.out.out
    have HST := Lib.hid (HSy.out.oset (hst p.new).1 (hst p.new).2)
    have HPT := Lib.hid ((hst p.new).2.blk HPy.out (HSy.out.apart HPy.out))
    clear hst hcf hcg
    have yg0 := HPT.out.cell 0
    have yg1 := HPT.out.cell 1
    have yg2 := HPT.out.cell 2
    have yg3 := HPT.out.cell 3
    have yg4 := HPT.out.cell 4
    have yg5 := HPT.out.cell 5
    have yg6 := HPT.out.cell 6
    have yh0 := HST.out.hlp.cell 0
    have yh1 := HST.out.hlp.cell 1
    have yh2 := HST.out.hlp.cell 2
    have yb0 := HST.out.box.cell 0
    have yb1 := HST.out.box.cell 1
    have yb2 := HST.out.box.cell 2
    have yb3 := HST.out.box.cell 3
    have yb4 := HST.out.box.cell 4
    have yf1 := HST.out.hlp.free ⟨hb, 1, none⟩ rfl
    have yf2 := HST.out.hlp.free ⟨hb, 2, none⟩ rfl
    simp only [List.getElem?_cons_zero, List.getElem?_cons_succ] at yg0 yg1 yg2 yg3 yg4 yg5 yg6 yh0 yh1 yh2 yb0 yb1 yb2 yb3 yb4
    go_wp2
    (try simp only [Exit.inBlock, Exit.then])
    refine bodyPost_ret (results_tmp3 rfl _ _ _) rfl ?_
    exact HQ'.out _ _ ⟨rfl, HST.out.hset (fr_one rfl) (HST.out.hlp.set 1 _)⟩
  · have HEQ : stepH d ⟨7, i⟩ p scx = (5, false, 0, ⟨8, i⟩, d) := by
      unfold stepH; rw [if_neg (show ¬ (7 : Int) = 1 by decide)]; rw [if_neg (show ¬ (7 : Int) = 2 by decide)]; rw [if_neg (show ¬ (7 : Int) = 3 by decide)]; rw [if_neg (show ¬ (7 : Int) = 4 by decide)]; rw [if_neg (show ¬ (7 : Int) = 5 by decide)]; rw [if_neg (show ¬ (7 : Int) = 6 by decide)]; rw [if_pos rfl]; rw [show swgH d p = d from by unfold swgH; simp only; rw [HR.out, HROW.out, if_neg he]]
    unfold StepPost at HQ'
    rw [HEQ] at HQ'
    clear HEQ
    generalize row.getD p.fld.toNat 0 = q at *
    have hqn : (q == p.old) = false := by rw [beq_eq_false_iff_ne]; exact he
    go_wp2
    generalize w.alloc (.cells #[.slice (some adv) p.V.length k0, .slice B1 p.infos.length k1, .slice B2 p.fin.length k2, .int .i64 p.at_, .int .i64 p.fld, .int .i64 p.old, .int .i64 p.new] 78) = w0 at *
    go_quiet (fail)
    revert nq
    intro n1
    go_wp2
    go_quiet (fail)
    revert nq
    intro n2
    go_wp2
    (try simp only [Exit.inBlock, Exit.then])
    refine bodyPost_ret (results_tmp3 rfl _ _ _) rfl ?_
    exact HQ'.out _ _ ⟨rfl, (HS0.out.more (pw_below_drewN (Below.refl w0.heap.size w0) _)).hset (fr_one rfl) (HS0.out.hlp.set 1 _)⟩

set_option maxHeartbeats 4000000 in
set_option maxRecDepth 100000 in
theorem ref13_Step8 (wb w : World) (bw hb : Nat) (d : WD) (x : PX) (fv iv mv sv zv : Value) (us : List Value) (scx : Int) (i : Nat) (hx : x.Reads wb) (h : StAt wb w w bw hb d fv iv mv sv zv us scx ⟨8, i⟩) (ok : StOk d x.p scx ⟨8, i⟩) :
    Calls Try.prog 32 #[.pointer (some ⟨bw, 0, none⟩), .pointer (some ⟨hb, 0, none⟩), x.val] w (StepPost wb w bw hb d x.p fv iv mv sv zv us scx ⟨8, i⟩) := by
  obtain ⟨p, B0, k0, B1, k1, B2, k2⟩ := x
  refine calls_hide fun Q HQ => ?_
  have HQ' := Lib.hid HQ
  have HX := Lib.hid hx
  have OK := Lib.hid (show StOk d p scx _ from ok)
  have hbx := (Below.refl w.heap.size w).alloc (Nat.le_refl _) (.cells #[.slice B0 p.V.length k0, .slice B1 p.infos.length k1, .slice B2 p.fin.length k2, .int .i64 p.at_, .int .i64 p.fld, .int .i64 p.old, .int .i64 p.new] 78)
  have HS0 := Lib.hid (h.more hbx)
  have hpb := Blk.new w 78 [.slice B0 p.V.length k0, .slice B1 p.infos.length k1, .slice B2 p.fin.length k2, .int .i64 p.at_, .int .i64 p.fld, .int .i64 p.old, .int .i64 p.new]
  have HPB := Lib.hid hpb
  have hlt0 := h.hlp.lt
  have hlt1 := h.box.lt
  have HNE := Lib.hid (show ¬ w.heap.size = hb ∧ ¬ w.heap.size = bw by constructor <;> omega)
  clear HQ hx h ok hpb hbx hlt0 hlt1
  go_enter Try.func32, Try.ntmps32
  have g0 := HPB.out.cell 0
  have g1 := HPB.out.cell 1
  have g2 := HPB.out.cell 2
  have g3 := HPB.out.cell 3
  have g4 := HPB.out.cell 4
  have g5 := HPB.out.cell 5
  have g6 := HPB.out.cell 6
  have h0 := HS0.out.hlp.cell 0
  have h1 := HS0.out.hlp.cell 1
  have h2 := HS0.out.hlp.cell 2
  have b0 := HS0.out.box.cell 0
  have b1 := HS0.out.box.cell 1
  have b2 := HS0.out.box.cell 2
  have b3 := HS0.out.box.cell 3
  have b4 := HS0.out.box.cell 4
  have f1 := HS0.out.hlp.free ⟨hb, 1, none⟩ rfl
  have f2 := HS0.out.hlp.free ⟨hb, 2, none⟩ rfl
  simp only [List.getElem?_cons_zero, List.getElem?_cons_succ] at g0 g1 g2 g3 g4 g5 g6 h0 h1 h2 b0 b1 b2 b3 b4
  skip
  have hs0 : 0 ≤ scx := OK.out.s0
  have hs1 : scx.toNat < d.states.length := by have := OK.out.s1; omega
  have hs2 : scx < d.states.length := OK.out.s1
  obtain ⟨ads, cs, es, hcs, hsets⟩ := HS0.out.out.atS hs1
  subst es
  clear hsets
  have HEQ : stepH d ⟨8, i⟩ p scx = (2, true, 1, ⟨8, i⟩, { d with states := d.states.set scx.toNat 1 }) := by
    unfold stepH; rw [if_neg (show ¬ (8 : Int) = 1 by decide)]; rw [if_neg (show ¬ (8 : Int) = 2 by decide)]; rw [if_neg (show ¬ (8 : Int) = 3 by decide)]; rw [if_neg (show ¬ (8 : Int) = 4 by decide)]; rw [if_neg (show ¬ (8 : Int) = 5 by decide)]; rw [if_neg (show ¬ (8 : Int) = 6 by decide)]; rw [if_neg (show ¬ (8 : Int) = 7 by decide)]
  unfold StepPost at HQ'
  rw [HEQ] at HQ'
  clear HEQ
  go_wp2_with fail
  generalize w.alloc (.cells #[.slice B0 p.V.length k0, .slice B1 p.infos.length k1, .slice B2 p.fin.length k2, .int .i64 p.at_, .int .i64 p.fld, .int .i64 p.old, .int .i64 p.new] 78) = w0 at *
  have HSy := Lib.hid HS0.out
  have HPy := Lib.hid HPB.out
  have HSw := Lib.hid (HSy.out.more (Below.refl w0.heap.size w0).drew)
  have HPw := Lib.hid (HPy.out.below (Below.refl w0.heap.size w0).drew HPy.out.lt)
  obtain ⟨adx, cx, ex, hcx, hsx⟩ := HSw.out.out.atS hs1
  obtain ⟨rfl, rfl⟩ : ads = adx ∧ cs = cx := by simp at ex; exact ex
  obtain ⟨hfx, hst⟩ := hsx _ HSw.out.out
  have HST := Lib.hid (HSw.out.oset (hst 1).1 (hst 1).2)
  have HPT := Lib.hid ((hst 1).2.blk HPw.out (HSw.out.apart HPw.out))
  clear ex hsx hst
  go_wp2_with fail
  refine wp_region_still_tail 9 (by kernel_rfl) (by kernel_rfl) ?_
  simp only [List.take_succ_cons, List.take_zero, List.drop_succ_cons, List.drop_zero]
  iterate 9 still_step
  refine wpStill_nil ?_
  change wpList _ _ _ _ _ w0.drew
  generalize w0.drew = wz at *
  go_wp2
  (try simp only [Exit.inBlock, Exit.then])
  refine bodyPost_ret (results_tmp3 rfl _ _ _) rfl ?_
  exact HQ'.out _ _ ⟨rfl, HST.out⟩
end Go.Proofs.Ytphhdmopfmelbaa

/- larchref13: Step, whatever the line; where the helper stands then. -/
namespace Go.Proofs.Ytphhdmopfmelbaa
open Go.RowKit Go.Proofs.YtphhdmopfmelbaaW.PrintWords
set_option linter.unusedVariables false
set_option linter.unusedSimpArgs false

theorem ref13_Step (wb w : World) (bw hb : Nat) (d : WD) (x : PX) (fv iv mv sv zv : Value) (us : List Value) (scx : Int) (s : HS) (hx : x.Reads wb) (h : StAt wb w w bw hb d fv iv mv sv zv us scx s) (ok : StOk d x.p scx s) :
    Calls Try.prog 32 #[.pointer (some ⟨bw, 0, none⟩), .pointer (some ⟨hb, 0, none⟩), x.val] w (StepPost wb w bw hb d x.p fv iv mv sv zv us scx s) := by
  obtain ⟨l, i⟩ := s
  have hl := ok.ln
  simp only at hl
  rcases hl with rfl | rfl | rfl | rfl | rfl | rfl | rfl | rfl
  · exact ref13_Step1 wb w bw hb d x fv iv mv sv zv us scx i hx h ok
  · exact ref13_Step2 wb w bw hb d x fv iv mv sv zv us scx i hx h ok
  · exact ref13_Step3 wb w bw hb d x fv iv mv sv zv us scx i hx h ok
  · exact ref13_Step4 wb w bw hb d x fv iv mv sv zv us scx i hx h ok
  · exact ref13_Step5 wb w bw hb d x fv iv mv sv zv us scx i hx h ok
  · exact ref13_Step6 wb w bw hb d x fv iv mv sv zv us scx i hx h ok
  · exact ref13_Step7 wb w bw hb d x fv iv mv sv zv us scx i hx h ok
  · exact ref13_Step8 wb w bw hb d x fv iv mv sv zv us scx i hx h ok
/-- Only lengths matter. -/
theorem PlanD.Fits.cong {p : PlanD} {d d' : WD} (h : p.Fits d) (h1 : d'.fields.length = d.fields.length) (h2 : d'.states.length = d.states.length) (h3 : ∀ r, (d'.fields.getD r []).length = (d.fields.getD r []).length) : p.Fits d' :=
  ⟨h.v0, h.v1, h.v2, h.a, by rw [h1]; exact h.o, by rw [h1]; exact h.n, by rw [h1]; exact h.hV, by rw [h2]; exact h.hI, by rw [h3]; exact h.f⟩
theorem StOk.cong {d d' : WD} {p : PlanD} {scx : Int} {s s' : HS} (h : StOk d p scx s) (h0 : d'.fields.length = d.fields.length) (h1 : d'.infos.length = d.infos.length) (h2 : d'.marks.length = d.marks.length) (h3 : d'.states.length = d.states.length) (h4 : d'.frozen.length = d.frozen.length)
    (h5 : ∀ r, (d'.fields.getD r []).length = (d.fields.getD r []).length) (ln : s'.line = 1 ∨ s'.line = 2 ∨ s'.line = 3 ∨ s'.line = 4 ∨ s'.line = 5 ∨ s'.line = 6 ∨ s'.line = 7 ∨ s'.line = 8) (ii : s'.line = 1 ∨ s'.line = 2 ∨ s'.line = 6 → s'.i < p.V.length) (il : s'.i ≤ p.V.length) : StOk d' p scx s' :=
  ⟨by rw [h1, h0]; exact h.e1, by rw [h2, h0]; exact h.e2, by rw [h4, h3]; exact h.e4, h.fits.cong h0 h3 h5, h.s0, by rw [h3]; exact h.s1, ln, ii, il, h.sz⟩
theorem skip_le (p : PlanD) (i : Nat) (hf : p.fin.length = p.V.length) (hi : i ≤ p.V.length) : skipS p i ≤ p.V.length := by
  unfold skipS
  have := (List.takeWhile_sublist (fun f => !f) (l := p.fin.drop i)).length_le
  rw [List.length_drop] at this
  omega
theorem stepH_ok {d : WD} {p : PlanD} {scx : Int} {s : HS} (ok : StOk d p scx s) (hd : (stepH d s p scx).2.1 = false) : StOk (stepH d s p scx).2.2.2.2 p scx (stepH d s p scx).2.2.2.1 := by
  have hnx : s.i < p.V.length → ((nextS p s.i).line = 1 ∨ (nextS p s.i).line = 5) ∧ ((nextS p s.i).line = 1 → (nextS p s.i).i < p.V.length) ∧ (nextS p s.i).i ≤ p.V.length := fun hi => by
    unfold nextS
    split
    · exact ⟨.inr rfl, fun h => by simp at h, by simp only; omega⟩
    · exact ⟨.inl rfl, fun _ => by simp only; omega, by simp only; omega⟩
  have hmk : ∀ i, i ≤ p.V.length → ((marksS p i).line = 6 ∨ (marksS p i).line = 7) ∧ ((marksS p i).line = 6 → (marksS p i).i < p.V.length) ∧ (marksS p i).i ≤ p.V.length := fun i hi => by
    have hs := skip_le p i ok.fits.v2 hi
    unfold marksS
    split
    · exact ⟨.inr rfl, fun h => by simp at h, by simp only; omega⟩
    · exact ⟨.inl rfl, fun _ => by simp only; omega, by simp only; omega⟩
  have fromN : ∀ {d' : WD}, (s.i < p.V.length) → d'.fields.length = d.fields.length → d'.infos.length = d.infos.length → d'.marks.length = d.marks.length → d'.states.length = d.states.length → d'.frozen.length = d.frozen.length → (∀ r, (d'.fields.getD r []).length = (d.fields.getD r []).length) → StOk d' p scx (nextS p s.i) := fun hi a0 a1 a2 a3 a4 a5 => by
    obtain ⟨q1, q2, q3⟩ := hnx hi
    refine ok.cong a0 a1 a2 a3 a4 a5 (by rcases q1 with q | q <;> simp [q]) (fun h => ?_) q3
    rcases q1 with q | q
    · exact q2 q
    · rw [q] at h; omega
  have fromM : ∀ {d' : WD} (i : Nat), i ≤ p.V.length → d'.fields.length = d.fields.length → d'.infos.length = d.infos.length → d'.marks.length = d.marks.length → d'.states.length = d.states.length → d'.frozen.length = d.frozen.length → (∀ r, (d'.fields.getD r []).length = (d.fields.getD r []).length) → StOk d' p scx (marksS p i) := fun i hi a0 a1 a2 a3 a4 a5 => by
    obtain ⟨q1, q2, q3⟩ := hmk i hi
    refine ok.cong a0 a1 a2 a3 a4 a5 (by rcases q1 with q | q <;> simp [q]) (fun h => ?_) q3
    rcases q1 with q | q
    · exact q2 q
    · rw [q] at h; omega
  have hl := ok.ln
  unfold stepH at hd ⊢
  by_cases l1 : s.line = 1
  · have hi := ok.ii (.inl l1)
    simp only [if_pos l1] at hd ⊢
    split
    · exact fromN hi rfl (by simp) rfl rfl rfl (fun _ => rfl)
    · exact ok.cong rfl rfl rfl rfl rfl (fun _ => rfl) (by simp) (fun _ => hi) (by simp only; omega)
  simp only [if_neg l1] at hd ⊢
  by_cases l2 : s.line = 2
  · have hi := ok.ii (.inr (.inl l2))
    simp only [if_pos l2] at hd ⊢
    split
    · exact fromN hi rfl rfl rfl rfl rfl (fun _ => rfl)
    · exact ok.cong rfl rfl rfl rfl rfl (fun _ => rfl) (by simp) (fun h => by simp at h) (by simp only; omega)
  simp only [if_neg l2] at hd ⊢
  by_cases l3 : s.line = 3
  · simp only [if_pos l3] at hd ⊢
    exact ok.cong rfl rfl rfl rfl rfl (fun _ => rfl) (by simp) (fun h => by simp at h) ok.il
  simp only [if_neg l3] at hd ⊢
  by_cases l4 : s.line = 4
  · simp only [if_pos l4] at hd
    cases hd
  simp only [if_neg l4] at hd ⊢
  by_cases l5 : s.line = 5
  · simp only [if_pos l5] at hd ⊢
    exact fromM 0 (Nat.zero_le _) rfl rfl rfl rfl (by simp) (fun _ => rfl)
  simp only [if_neg l5] at hd ⊢
  by_cases l6 : s.line = 6
  · have hi := ok.ii (.inr (.inr l6))
    simp only [if_pos l6] at hd ⊢
    exact fromM (s.i + 1) hi rfl rfl (by simp) rfl rfl (fun _ => rfl)
  simp only [if_neg l6] at hd ⊢
  by_cases l7 : s.line = 7
  · simp only [if_pos l7] at hd ⊢
    unfold swgH
    simp only
    split
    · refine ok.cong (by simp) rfl rfl rfl rfl (fun r => ?_) (by simp) (fun h => by simp at h) ok.il
      by_cases e : r = (p.V.getD p.at_.toNat 0).toNat
      · subst e
        by_cases hlt : (p.V.getD p.at_.toNat 0).toNat < d.fields.length
        · rw [getD_set _ _ _ _ _ hlt, if_pos rfl, List.length_set]
        · rw [List.getD_eq_getElem?_getD, List.getElem?_eq_none (by rw [List.length_set]; omega), List.getD_eq_getElem?_getD, List.getElem?_eq_none (by omega)]
      · rw [List.getD_eq_getElem?_getD, List.getElem?_set_ne (fun h => e h.symm), ← List.getD_eq_getElem?_getD]
    · exact ok.cong rfl rfl rfl rfl rfl (fun _ => rfl) (by simp) (fun h => by simp at h) ok.il
  simp only [if_neg l7] at hd
  cases hd
end Go.Proofs.Ytphhdmopfmelbaa

/- larchref13: fits. -/
namespace Go.Proofs.Ytphhdmopfmelbaa
open Go.RowKit Go.Proofs.YtphhdmopfmelbaaW.PrintWords
set_option linter.unusedVariables false
set_option linter.unusedSimpArgs false

abbrev TRP3 : Nat := 78
set_option maxHeartbeats 8000000 in
set_option maxRecDepth 100000 in
theorem ref13_fits (w : World) (v : WV) (d : WD) (x : PX) (hv : v.Reads w d) (hx : x.Reads w) (hl : d.fields.length < 1000000000000000) (hl3 : d.states.length < 1000000000000000) (hr : ∀ r ∈ d.fields, r.length < 1000000000000000) (hl4 : x.p.V.length < 1000000000000000) :
    Calls Try.prog 64 #[v.val d, x.val] w fun e w' => ∃ r, e = .returned (.bool r) ∧ (r = true ↔ x.p.Fits d) ∧ Below w.heap.size w w' := by
  obtain ⟨p, B0, k0, B1, k1, B2, k2⟩ := x
  refine calls_hide fun Q HQ => ?_
  have HN := Lib.hid (show ∀ w', Below w.heap.size w w' → ¬ p.Fits d → Q (.returned (.bool false)) w' from fun w' hb hn => HQ _ _ ⟨false, rfl, by simp [hn], hb⟩)
  have HY := Lib.hid (show ∀ w', Below w.heap.size w w' → p.Fits d → Q (.returned (.bool true)) w' from fun w' hb hn => HQ _ _ ⟨true, rfl, by simp [hn], hb⟩)
  have HV := Lib.hid hv
  have HX := Lib.hid hx
  have HR := Lib.hid hr
  simp only at hl4
  clear HQ hv hr hx
  go_enter Try.func64, Try.ntmps64
  by_cases e0 : p.V.length = 0
  case pos =>
    have HF := Lib.hid (fun w' hb => HN.out w' hb (fun h => by have := h.v0; omega))
    clear HN HY HV HR
    go_wp2
    exact HF.out _ (((Below.refl _ _).alloc (Nat.le_refl _) _).alloc (by simp) _)
  have f0 : ((p.V.length : Int) == 0) = false := by rw [beq_eq_false_iff_ne]; omega
  by_cases e1 : p.infos.length = p.V.length
  case neg =>
    have f1 : ((p.infos.length : Int) != (p.V.length : Int)) = true := by rw [bne_iff_ne]; omega
    have HF := Lib.hid (fun w' hb => HN.out w' hb (fun h => e1 h.v1))
    clear HN HY HV HR
    go_wp2
    exact HF.out _ (((Below.refl _ _).alloc (Nat.le_refl _) _).alloc (by simp) _)
  by_cases e2 : p.fin.length = p.V.length
  case neg =>
    have f1 : ((p.fin.length : Int) != (p.V.length : Int)) = true := by rw [bne_iff_ne]; omega
    have HF := Lib.hid (fun w' hb => HN.out w' hb (fun h => e2 h.v2))
    clear HN HY HV HR
    go_wp2
    exact HF.out _ (((Below.refl _ _).alloc (Nat.le_refl _) _).alloc (by simp) _)
  have E0 := Lib.hid (show 0 < p.V.length by omega)
  have E1 := Lib.hid e1
  have E2 := Lib.hid e2
  by_cases h1 : inH p.at_ 0 p.V.length
  case neg =>
    have HW1 := Lib.hid (ref13_in_of p.at_ 0 p.V.length false (by rw [inB_false]; exact h1))
    have HF := Lib.hid (fun w' hb => HN.out w' hb (fun h => h1 (h.a)))
    clear HN HY HV HR h1
    go_wp2_with fail
    refine (HW1.out _).mono ?_
    rintro e w1 ⟨rfl, rfl⟩
    go_wp2
    exact HF.out _ (((Below.refl _ _).alloc (Nat.le_refl _) _).alloc (by simp) _)
  have HW1 := Lib.hid (ref13_in_of p.at_ 0 p.V.length true (by rw [inB_true]; exact h1))
  by_cases h2 : inH p.old (-1) d.fields.length
  case neg =>
    have HW2 := Lib.hid (ref13_in_of p.old (-1) d.fields.length false (by rw [inB_false]; exact h2))
    have HF := Lib.hid (fun w' hb => HN.out w' hb (fun h => h2 (h.o)))
    clear HN HY HV HR h2
    go_wp2_with fail
    refine (HW1.out _).mono ?_
    rintro e w1 ⟨rfl, rfl⟩
    go_wp2_with fail
    refine (HW2.out _).mono ?_
    rintro e w1 ⟨rfl, rfl⟩
    go_wp2
    exact HF.out _ (((Below.refl _ _).alloc (Nat.le_refl _) _).alloc (by simp) _)
  have HW2 := Lib.hid (ref13_in_of p.old (-1) d.fields.length true (by rw [inB_true]; exact h2))
  by_cases h3 : inH p.new (-1) d.fields.length
  case neg =>
    have HW3 := Lib.hid (ref13_in_of p.new (-1) d.fields.length false (by rw [inB_false]; exact h3))
    have HF := Lib.hid (fun w' hb => HN.out w' hb (fun h => h3 (h.n)))
    clear HN HY HV HR h3
    go_wp2_with fail
    refine (HW1.out _).mono ?_
    rintro e w1 ⟨rfl, rfl⟩
    go_wp2_with fail
    refine (HW2.out _).mono ?_
    rintro e w1 ⟨rfl, rfl⟩
    go_wp2_with fail
    refine (HW3.out _).mono ?_
    rintro e w1 ⟨rfl, rfl⟩
    go_wp2
    exact HF.out _ (((Below.refl _ _).alloc (Nat.le_refl _) _).alloc (by simp) _)
  have HW3 := Lib.hid (ref13_in_of p.new (-1) d.fields.length true (by rw [inB_true]; exact h3))
  have H3 := Lib.hid (And.intro h1 (And.intro h2 h3))
  have hat0 : 0 ≤ p.at_ := h1.1
  have hat1 : p.at_ < p.V.length := h1.2
  clear h1 h2 h3
  go_wp2_with fail
  refine (HW1.out _).mono ?_
  rintro e w1 ⟨rfl, rfl⟩
  go_wp2_with fail
  refine (HW2.out _).mono ?_
  rintro e w1 ⟨rfl, rfl⟩
  go_wp2_with fail
  refine (HW3.out _).mono ?_
  rintro e w1 ⟨rfl, rfl⟩
  go_wp2
  clear e0 e1 e2 f0 HW1 HW2 HW3
  generalize hW : (w.alloc (.cells #[.slice v.A0 d.fields.length v.c0, .slice v.A1 d.infos.length v.c1, .slice v.A2 d.marks.length v.c2, .slice v.A3 d.states.length v.c3, .slice v.A4 d.frozen.length v.c4] TRW3)).alloc (.cells #[.slice B0 p.V.length k0, .slice B1 p.V.length k1, .slice B2 p.V.length k2, .int .i64 p.at_, .int .i64 p.fld, .int .i64 p.old, .int .i64 p.new] TRP3) = w0
  have HB0 := Lib.hid (show Below w.heap.size w w0 by rw [← hW]; exact ((Below.refl _ _).alloc (Nat.le_refl _) _).alloc (by simp) _)
  have HP0 := Lib.hid (show Blk w0 (w.heap.size + 1) TRP3 (PX.cells (PX.mk p B0 k0 B1 k1 B2 k2)) by rw [← hW]; have h := Blk.new (w.alloc (.cells #[.slice v.A0 d.fields.length v.c0, .slice v.A1 d.infos.length v.c1, .slice v.A2 d.marks.length v.c2, .slice v.A3 d.states.length v.c3, .slice v.A4 d.frozen.length v.c4] TRW3)) TRP3 (PX.cells (PX.mk p B0 k0 B1 k1 B2 k2)); simp only [PX.cells, E1.out, E2.out, World.size_alloc] at h ⊢; exact h)
  have HK0 := Lib.hid (show Blk w0 (w.heap.size) TRW3 (v.cells d) by rw [← hW]; exact (Blk.new w _ _).alloc _)
  clear hW
  go_loopw [6] (fun k wr => ∃ j : Nat, j ≤ p.V.length ∧ k = .int .i64 j ∧ (∀ n ∈ p.V.take j, inH n 0 d.fields.length) ∧ (∀ n ∈ p.infos.take j, inH n (-1) d.states.length) ∧ Below w.heap.size w wr ∧ Blk wr (w.heap.size + 1) TRP3 (PX.cells (PX.mk p B0 k0 B1 k1 B2 k2)) ∧ Blk wr (w.heap.size) TRW3 (v.cells d)) (fun k _ => p.V.length - (intOf k).toNat)
  case atStart => exact ⟨0, Nat.zero_le _, rfl, by simp, by simp, HB0.out, HP0.out, HK0.out⟩
  case round =>
    clear HB0 HK0 HP0
    obtain ⟨j, hj, rfl, hr1, hr2, hb, hp, hk⟩ := hrel
    have H1 := Lib.hid hr1
    have H2 := Lib.hid hr2
    have HB := Lib.hid hb
    have HP := Lib.hid hp
    have HK := Lib.hid hk
    clear hr1 hr2 hb hp hk
    have hpa : wr.cell? ⟨w.heap.size + 1, 0, none⟩ = some (.slice B0 p.V.length k0) := HP.out.cell 0
    have hpb : wr.cell? ⟨w.heap.size + 1, 1, none⟩ = some (.slice B1 p.infos.length k1) := HP.out.cell 1
    have hpd : wr.cell? ⟨w.heap.size + 1, 3, none⟩ = some (.int .i64 p.at_) := HP.out.cell 3
    have hpe : wr.cell? ⟨w.heap.size + 1, 4, none⟩ = some (.int .i64 p.fld) := HP.out.cell 4
    have hpf : wr.cell? ⟨w.heap.size + 1, 5, none⟩ = some (.int .i64 p.old) := HP.out.cell 5
    have hpg : wr.cell? ⟨w.heap.size + 1, 6, none⟩ = some (.int .i64 p.new) := HP.out.cell 6
    have hwa : wr.cell? ⟨w.heap.size, 0, none⟩ = some (.slice v.A0 d.fields.length v.c0) := HK.out.cell 0
    have hwd : wr.cell? ⟨w.heap.size, 3, none⟩ = some (.slice v.A3 d.states.length v.c3) := HK.out.cell 3
    by_cases hlt : j < p.V.length
    · have e1 := E1.out
      obtain ⟨ad, hA, hc0⟩ := int_at HX.out.h0 hlt
      have hc1 := pw_cell_below HB.out hc0
      obtain ⟨ad2, hA2, hc2⟩ := int_at HX.out.h1 (j := j) (by show j < p.infos.length; omega)
      have hc3 := pw_cell_below HB.out hc2
      have HM1 := Lib.hid (List.getElem_mem hlt)
      have HM2 := Lib.hid (List.getElem_mem (l := p.infos) (n := j) (by omega))
      have HS1 := Lib.hid (all_take (P := fun n => inH n 0 d.fields.length) hlt H1.out)
      have HS2 := Lib.hid (all_take (P := fun n => inH n (-1) d.states.length) (l := p.infos) (j := j) (show j < p.infos.length by omega) H2.out)
      simp only at hA hA2 hc0 hc1 hc2 hc3
      generalize p.V[j] = n at *
      generalize p.infos[j]'(by omega) = m at *
      subst hA hA2
      clear hc0 hc2 H1 H2
      by_cases hin : inH n 0 d.fields.length
      case neg =>
        have hw1 : inB n 0 d.fields.length = false := inB_false.2 hin
        have HF := Lib.hid (fun w' hb => HN.out w' hb (fun h => hin (h.hV _ HM1.out)))
        clear hin HS1 HS2 HN HY
        go_wp2
        go_quiet ((go_at_call 29; exact Calls.quiet_of_same (ref13_in _ _ _ _)))
        go_wp2
        exact HF.out _ (pw_below_drewN HB.out _)
      have hw1 : inB n 0 d.fields.length = true := inB_true.2 hin
      by_cases him : inH m (-1) d.states.length
      case neg =>
        have hw2 : inB m (-1) d.states.length = false := inB_false.2 him
        have HF := Lib.hid (fun w' hb => HN.out w' hb (fun h => him (h.hI _ HM2.out)))
        clear hin him HS1 HS2 HN HY
        go_wp2
        go_quiet ((go_at_call 29; exact Calls.quiet_of_same (ref13_in _ _ _ _)))
        go_wp2
        exact HF.out _ (pw_below_drewN HB.out _)
      have hw2 : inB m (-1) d.states.length = true := inB_true.2 him
      have HT1 := Lib.hid (HS1.out hin)
      have HT2 := Lib.hid (HS2.out him)
      clear hin him HS1 HS2
      go_wp2
      go_quiet ((go_at_call 29; exact Calls.quiet_of_same (ref13_in _ _ _ _)))
      go_wp2
      go_roundw
      case rel => exact ⟨j + 1, by omega, by go_num, HT1.out, HT2.out, pw_below_drewN HB.out _, HP.out, HK.out⟩
      case measure => simp [intOf]; omega
    · obtain rfl : j = p.V.length := by omega
      have HF1 := Lib.hid (all_len H1.out)
      have HF2 := Lib.hid (all_len (P := fun n => inH n (-1) d.states.length) (l := p.infos) (by rw [E1.out]; exact H2.out))
      clear H1 H2 hlt hj
      obtain ⟨adv, hAv, hcv0⟩ := int_at HX.out.h0 (j := p.at_.toNat) (by show p.at_.toNat < p.V.length; omega)
      have hcv := pw_cell_below HB.out hcv0
      have HVm := HF1.out _ (List.getElem_mem (l := p.V) (n := p.at_.toNat) (by omega))
      have HG := Lib.hid (show p.V.getD p.at_.toNat 0 = p.V[p.at_.toNat]'(by omega) by simp [List.getD_eq_getElem?_getD, List.getElem?_eq_getElem (show p.at_.toNat < p.V.length by omega)])
      simp only at hAv hcv0 hcv
      generalize p.V[p.at_.toNat]'(by omega) = n at *
      have hn0 : 0 ≤ n := HVm.1
      have hn1 : n < d.fields.length := HVm.2
      obtain ⟨adf, hAf, A', c', hcf0, _, _⟩ := row_at HV.out.h0 (j := n.toNat) (by omega)
      have hcf := pw_cell_below HB.out hcf0
      have hrl := HR.out _ (List.getElem_mem (l := d.fields) (n := n.toNat) (by omega))
      have HG2 := Lib.hid (show d.fields.getD n.toNat [] = d.fields[n.toNat]'(by omega) by simp [List.getD_eq_getElem?_getD, List.getElem?_eq_getElem (show n.toNat < d.fields.length by omega)])
      generalize d.fields[n.toNat]'(by omega) = row at *
      subst hAv
      clear hcv0 hcf0 HVm
      obtain ⟨A0, c0, A1, c1, A2, c2, A3, c3, A4, c4⟩ := v
      simp only at hAf hwa hwd hcf
      subst hAf
      by_cases h4 : inH p.fld 0 row.length
      case neg =>
        have hw4 : inB p.fld 0 row.length = false := inB_false.2 h4
        have HF := Lib.hid (show ∀ w', Below w.heap.size w w' → Q (.returned (.bool (inB p.fld 0 row.length))) w' from fun w' hb => by rw [hw4]; exact HN.out w' hb (fun h => h4 (by have := h.f; rw [HG.out, HG2.out] at this; exact this)))
        clear HN HY HF1 HF2 h4
        go_wp2
        go_quiet ((go_at_call 29; exact Calls.quiet_of_same (ref13_in _ _ _ _)))
        go_wp2
        exact HF.out _ (pw_below_drewN HB.out _)
      have hw4 : inB p.fld 0 row.length = true := inB_true.2 h4
      have HF := Lib.hid (show ∀ w', Below w.heap.size w w' → Q (.returned (.bool (inB p.fld 0 row.length))) w' from fun w' hb => by rw [hw4]; exact HY.out w' hb ⟨E0.out, E1.out, E2.out, H3.out.1, H3.out.2.1, H3.out.2.2, HF1.out, HF2.out, by rw [HG.out, HG2.out]; exact h4⟩)
      clear HN HY HF1 HF2 h4
      go_wp2
      go_quiet ((go_at_call 29; exact Calls.quiet_of_same (ref13_in _ _ _ _)))
      go_wp2
      exact HF.out _ (pw_below_drewN HB.out _)
end Go.Proofs.Ytphhdmopfmelbaa
