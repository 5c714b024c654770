/- Joined texts: ChainY. -/
import Derived.Test.YteeficpjggimcaaM8

/- larchref06: Step, the kinds that the chain hasn't: it ends. Printed by p_step06o.py. -/
namespace Go.Proofs.Yteeficpjggimcaa
open Go.RowKit Go.Proofs.YteeficpjggimcaaW.PrintWords Go.Proofs.YteeficpjggimcaaW.PrintLast Go.Proofs.Yteeficpjggimcaa.PChainCalls
set_option linter.unusedVariables false
set_option linter.unusedSimpArgs false

set_option maxHeartbeats 4000000 in
set_option maxRecDepth 100000 in
theorem step06_bad (w : World) (kd : Int) (A : Option Addr) (c : Nat) (l : List (Int × Int)) (key val hi : Int) (hl : l.length ≤ 1000000) (h : PRd w A l) (hc : l.length ≤ c) (hk1 : (kd == 1) = false) (hk2 : (kd == 2) = false) (hk3 : (kd == 3) = false) (hk4 : (kd == 4) = false) (hk5 : (kd == 5) = false) (hk6 : (kd == 6) = false) (hk7 : (kd == 7) = false) (hk8 : (kd == 8) = false) (hk9 : (kd == 9) = false) :
    Calls Try.prog 9 #[.slice A l.length c, .agg #[.int .i64 kd, .int .i64 key, .int .i64 val, .int .i64 hi]] w fun e w' => ∃ nv x0 x1 x2, e = .returned (.tuple #[nv, .agg #[.bool x0, .int .i64 x1, .int .i64 x2, .slice none 0 0]]) ∧ Below w.heap.size w w' := by
  refine calls_hide fun Q HQ => ?_
  have HQ' := Lib.hid HQ
  have ha := (Below.refl w.heap.size w).alloc (Nat.le_refl _) (.cells #[.int .i64 kd, .int .i64 key, .int .i64 val, .int .i64 hi] TOP)
  have hb := ha.alloc ha.size (.cells #[.bool false, .int .i64 0, .int .i64 0, .slice none 0 0] TRT)
  have hlk := ref06_look ((w.alloc (.cells #[.int .i64 kd, .int .i64 key, .int .i64 val, .int .i64 hi] TOP)).alloc (.cells #[.bool false, .int .i64 0, .int .i64 0, .slice none 0 0] TRT)) A c l key (by omega) (h.below hb) hc
  rw [List.length_map] at hlk
  have HLK := Lib.hid hlk
  have HP := Lib.hid h
  have HB2 := Lib.hid hb
  have ho0 := (Blk.new w TOP [.int .i64 kd, .int .i64 key, .int .i64 val, .int .i64 hi]).alloc (.cells #[.bool false, .int .i64 0, .int .i64 0, .slice none 0 0] TRT)
  have hr0 := Blk.new (w.alloc (.cells #[.int .i64 kd, .int .i64 key, .int .i64 val, .int .i64 hi] TOP)) TRT [.bool false, .int .i64 0, .int .i64 0, .slice none 0 0]
  rw [World.size_alloc] at hr0
  have HO0 := Lib.hid ho0
  have HR0 := Lib.hid hr0
  have o1 := HO0.out.cell 1
  simp only [List.getElem?_cons_zero, List.getElem?_cons_succ] at o1
  clear HQ h ha hb hlk ho0 hr0
  go_enter Try.func9, Try.ntmps9
  go_wp2_with fail
  clear o1
  generalize (w.alloc (.cells #[.int .i64 kd, .int .i64 key, .int .i64 val, .int .i64 hi] 37)).alloc (.cells #[.bool false, .int .i64 0, .int .i64 0, .slice none 0 0] 39) = w0 at *
  refine HLK.out.mono ?_
  rintro e w1 ⟨rfl, hb⟩
  have HB1 := Lib.hid (HB2.out.trans (hb.mono HB2.out.size))
  have HO1 := Lib.hid (HO0.out.below hb HO0.out.lt)
  have HR1 := Lib.hid (HR0.out.below hb HR0.out.lt)
  have hbz := (Below.refl w1.heap.size w1).alloc (Nat.le_refl _) (.cells #[.bool false, .int .i64 0, .int .i64 0, .slice none 0 0] TRT)
  have HQ2 := Lib.hid (Blk.new w1 TRT [.bool false, .int .i64 0, .int .i64 0, .slice none 0 0])
  have HO2 := Lib.hid (HO1.out.below hbz HO1.out.lt)
  have HR2 := Lib.hid (HR1.out.below hbz HR1.out.lt)
  have HB3 := Lib.hid (HB1.out.alloc HB1.out.size (.cells #[.bool false, .int .i64 0, .int .i64 0, .slice none 0 0] TRT))
  have HZ := Lib.hid (And.intro HB1.out.size HR1.out.lt)
  clear hb hbz HLK HB2 HO0 HR0
  generalize (lookL l key).2 = ok_ at *
  generalize (lookL l key).1 = v_ at *
  have o0 := HO2.out.cell 0
  have o1 := HO2.out.cell 1
  have o3 := HO2.out.cell 3
  have a0 := HQ2.out.cell 0
  have az0 : (w1.alloc (.cells #[.bool false, .int .i64 0, .int .i64 0, .slice none 0 0] TRT)).frozen? ⟨w1.heap.size, 0, none⟩ = false := HQ2.out.free _ rfl
  have a1 := HQ2.out.cell 1
  have az1 : (w1.alloc (.cells #[.bool false, .int .i64 0, .int .i64 0, .slice none 0 0] TRT)).frozen? ⟨w1.heap.size, 1, none⟩ = false := HQ2.out.free _ rfl
  have a2 := HQ2.out.cell 2
  have az2 : (w1.alloc (.cells #[.bool false, .int .i64 0, .int .i64 0, .slice none 0 0] TRT)).frozen? ⟨w1.heap.size, 2, none⟩ = false := HQ2.out.free _ rfl
  have a3 := HQ2.out.cell 3
  have az3 : (w1.alloc (.cells #[.bool false, .int .i64 0, .int .i64 0, .slice none 0 0] TRT)).frozen? ⟨w1.heap.size, 3, none⟩ = false := HQ2.out.free _ rfl
  simp only [List.getElem?_cons_zero, List.getElem?_cons_succ] at o0 o1 o3 a0 a1 a2 a3
  go_wp2_with fail
  have hbq := (Below.refl w1.heap.size w1).alloc (Nat.le_refl _) (.cells #[.bool false, .int .i64 0, .int .i64 0, .slice none 0 0] TRT)
  have HBQ := Lib.hid hbq
  clear hbq o0 o1 o3 a0 a1 a2 a3 az0 az1 az2 az3 HO2 HR2 HB3
  generalize w1.alloc (.cells #[.bool false, .int .i64 0, .int .i64 0, .slice none 0 0] 39) = w2 at *
  generalize hrb : w.heap.size + 1 = rb_ at *
  have HRB := Lib.hid hrb
  clear hrb
  generalize hqb : w1.heap.size = qb_ at *
  have HQB := Lib.hid hqb
  clear hqb
  go_loopw [9] (fun k wr => ∃ j : Nat, j ≤ l.length ∧ k = .int .i64 j ∧ ∃ (x0 : Bool) (x1 x2 : Int), Blk wr qb_ TRT [.bool x0, .int .i64 x1, .int .i64 x2, .slice none 0 0] ∧ Below qb_ w1 wr) (fun k _ => l.length - (intOf k).toNat)
  case atStart => exact ⟨0, Nat.zero_le _, rfl, false, 0, 0, HQ2.out, HBQ.out⟩
  case round =>
    obtain ⟨j, hj, rfl, x0, x1, x2, hqx, hbel⟩ := hrel
    have HQX := Lib.hid hqx
    clear hqx
    have HBL := Lib.hid hbel
    clear hbel
    by_cases hlt : j < l.length
    · have HBX : Hid (Below w1.heap.size w1 wr) := by rw [HQB.out]; exact HBL
      obtain ⟨ad, hA, c0, c1⟩ := pair_at ((HP.out.below HB1.out).below HBX.out) (i := j) (by simpa using hlt)
      subst hA
      have HOX := Lib.hid (HO1.out.below HBX.out HO1.out.lt)
      have HQL := Lib.hid HQX.out.lt
      generalize (pr ((l.map sp)[j]'(by simpa using hlt))) = p at *
      obtain ⟨pk, pw⟩ := p
      simp only at c0 c1
      go_wp2_with fail
      have hz0 := (Below.refl wr.heap.size wr).alloc (Nat.le_refl _) (.cells #[.bool false, .int .i64 0, .int .i64 0, .slice none 0 0] TRT)
      have c0' := pw_cell_below hz0 c0
      have c1' := pw_cell_below hz0 c1
      have HZ1 := Blk.new wr TRT [.bool false, .int .i64 0, .int .i64 0, .slice none 0 0]
      have d0 := HZ1.cell 0
      have dz0 : (wr.alloc (.cells #[.bool false, .int .i64 0, .int .i64 0, .slice none 0 0] TRT)).frozen? ⟨wr.heap.size, 0, none⟩ = false := HZ1.free _ rfl
      have d1 := HZ1.cell 1
      have dz1 : (wr.alloc (.cells #[.bool false, .int .i64 0, .int .i64 0, .slice none 0 0] TRT)).frozen? ⟨wr.heap.size, 1, none⟩ = false := HZ1.free _ rfl
      have d2 := HZ1.cell 2
      have dz2 : (wr.alloc (.cells #[.bool false, .int .i64 0, .int .i64 0, .slice none 0 0] TRT)).frozen? ⟨wr.heap.size, 2, none⟩ = false := HZ1.free _ rfl
      have d3 := HZ1.cell 3
      have dz3 : (wr.alloc (.cells #[.bool false, .int .i64 0, .int .i64 0, .slice none 0 0] TRT)).frozen? ⟨wr.heap.size, 3, none⟩ = false := HZ1.free _ rfl
      simp only [List.getElem?_cons_zero, List.getElem?_cons_succ] at d0 d1 d2 d3
      clear hz0 HZ1
      go_region
      have hz5 := ((Below.refl wr.heap.size wr).alloc (Nat.le_refl _) (.cells #[.bool true, .int .i64 pk, .int .i64 pw, .slice none 0 0] TRT)).drew
      have HT5 := Lib.hid ((Blk.new wr TRT [.bool true, .int .i64 pk, .int .i64 pw, .slice none 0 0]).drew)
      have HB5 := Lib.hid (HBL.out.trans (hz5.mono (by have := HQL.out; omega)))
      have HQ5 := Lib.hid (HQX.out.below hz5 HQL.out)
      have HO5 := Lib.hid (HOX.out.below hz5 HOX.out.lt)
      have k5 := pw_cell_below hz5 c0
      clear hz5 c0 c1 c0' c1' d0 d1 d2 d3 dz0 dz1 dz2 dz3 HBL HQX HOX
      generalize (wr.alloc (.cells #[.bool true, .int .i64 pk, .int .i64 pw, .slice none 0 0] 39)).drew = w5 at *
      have HTL := Lib.hid (show qb_ < wr.heap.size from HQL.out)
      generalize wr.heap.size = tb at *
      have o0 := HO5.out.cell 0
      have o1 := HO5.out.cell 1
      have a0 := HQ5.out.cell 0
      simp only [List.getElem?_cons_zero, List.getElem?_cons_succ] at o0 o1 a0
      go_wp2_with fail
      go_quiet (fail)
      have hdn := pw_below_drewN (Below.refl w5.heap.size w5) nq
      have HQ6 := Lib.hid (HQ5.out.below hdn HQ5.out.lt)
      have HB6 := Lib.hid (HB5.out.trans (hdn.mono (Nat.le_of_lt HQ5.out.lt)))
      clear hdn o0 o1 a0 k5 HT5 HQ5 HB5 HO5
      go_wp2
      go_roundw
      case rel => exact ⟨j + 1, by omega, by go_num, x0, x1, x2, HQ6.out, HB6.out⟩
      case measure => simp [intOf]; omega
    · have hje : j = l.length := by omega
      subst hje
      have HBX : Hid (Below w1.heap.size w1 wr) := by rw [HQB.out]; exact HBL
      have hcl := ((HP.out.below HB1.out).below HBX.out).cells
      have o0 := (HO1.out.below HBX.out HO1.out.lt).cell 0
      simp only [List.getElem?_cons_zero] at o0
      have HBW := Lib.hid (HB1.out.trans (HBX.out.mono HB1.out.size))
      have HCL := Lib.hid (fun (o : Obj) => And.intro hcl.1 (fun hn : 0 < l.length => by
        obtain ⟨ad, e, hc9⟩ := hcl.2 hn
        exact (⟨ad, e, fun j u hu => pw_cell_below ((Below.refl wr.heap.size wr).alloc (Nat.le_refl _) o) (hc9 j u hu)⟩ : ∃ ad, A = some ad ∧ ∀ j u, (l.flatMap pcells)[j]? = some u → (wr.alloc o).cell? (ad.add j) = some u)))
      clear hcl
      go_wp2_with (at_builtin; refine print_append_spread (W := wr) rfl _ _ TPAs TPA (.agg #[.int .i64 0, .int .i64 0]) 2 16 (by decide) rfl Try.underlying22 pinfo_pair rfl (A := A) (n := l.length) (c := c) (us := l.flatMap pcells) rfl rfl (HCL.out _) (one_pairs l) (by simp only [maxLen]; omega) (by omega) ?_)
      intro v6 w6 ho6 hb6
      have HPW := Lib.hid (PRow.of_own (Go.Proofs.YteeficpjggimcaaW.PrintWords.own_weaken ho6 HBW.out.size))
      have HB6 := Lib.hid (HBW.out.trans (hb6.mono HBW.out.size))
      have hb26 := hb6
      have HQ6 := Lib.hid (HQX.out.below hb26 HQX.out.lt)
      have HR6 := Lib.hid ((HR1.out.below HBX.out HR1.out.lt).below hb26 (Nat.lt_of_lt_of_le HR1.out.lt HBX.out.size))
      have HO6 := Lib.hid ((HO1.out.below HBX.out HO1.out.lt).below hb26 (Nat.lt_of_lt_of_le HO1.out.lt HBX.out.size))
      have HP6 := Lib.hid (HP.out.below HB6.out)
      have o1 := HO6.out.cell 0
      have o2 := HO6.out.cell 1
      have o3 := HO6.out.cell 2
      simp only [List.getElem?_cons_zero, List.getElem?_cons_succ] at o1 o2 o3
      clear ho6 hb6 hb26 o0 HBW HBL HCL
      have hne : qb_ ≠ rb_ := by have := HRB.out; have := HQB.out; have := HZ.out.1; have := HZ.out.2; omega
      have hne2 := hne.symm
      go_wp2_with fail
      have hdr := (Below.refl w6.heap.size w6).drew
      have HQ7 := Lib.hid (HQ6.out.below hdr HQ6.out.lt)
      have HR7 := Lib.hid (HR6.out.below hdr HR6.out.lt)
      clear hdr
      have q0 := HQ6.out.cell 0
      have q0' := HQ7.out.cell 0
      have r0 := HR6.out.cell 0
      have r0' := HR7.out.cell 0
      have rz0 : w6.frozen? ⟨rb_, 0, none⟩ = false := HR6.out.free _ rfl
      have rz0' : w6.drew.frozen? ⟨rb_, 0, none⟩ = false := HR7.out.free _ rfl
      have q1 := HQ6.out.cell 1
      have q1' := HQ7.out.cell 1
      have r1 := HR6.out.cell 1
      have r1' := HR7.out.cell 1
      have rz1 : w6.frozen? ⟨rb_, 1, none⟩ = false := HR6.out.free _ rfl
      have rz1' : w6.drew.frozen? ⟨rb_, 1, none⟩ = false := HR7.out.free _ rfl
      have q2 := HQ6.out.cell 2
      have q2' := HQ7.out.cell 2
      have r2 := HR6.out.cell 2
      have r2' := HR7.out.cell 2
      have rz2 : w6.frozen? ⟨rb_, 2, none⟩ = false := HR6.out.free _ rfl
      have rz2' : w6.drew.frozen? ⟨rb_, 2, none⟩ = false := HR7.out.free _ rfl
      have q3 := HQ6.out.cell 3
      have q3' := HQ7.out.cell 3
      have r3 := HR6.out.cell 3
      have r3' := HR7.out.cell 3
      have rz3 : w6.frozen? ⟨rb_, 3, none⟩ = false := HR6.out.free _ rfl
      have rz3' : w6.drew.frozen? ⟨rb_, 3, none⟩ = false := HR7.out.free _ rfl
      simp only [List.getElem?_cons_zero, List.getElem?_cons_succ] at q0 q1 q2 q3 q0' q1' q2' q3' r0 r1 r2 r3 r0' r1' r2' r3'
      go_region
      go_wp2
      have hfin : Fr w6 _ (fun k => k = rb_) := (((((Fr.refl w6 (fun k => k = rb_)).setCell ⟨rb_, 0, none⟩ (.bool x0) (fun _ => rfl)).setCell ⟨rb_, 1, none⟩ (.int .i64 x1) (fun _ => rfl)).setCell ⟨rb_, 2, none⟩ (.int .i64 x2) (fun _ => rfl)).setCell ⟨rb_, 3, none⟩ (.slice none 0 0) (fun _ => rfl)).drew
      have hblk : Blk _ rb_ TRT [.bool x0, .int .i64 x1, .int .i64 x2, .slice none 0 0] := ((((HR6.out.set 0 (.bool x0)).set 1 (.int .i64 x1)).set 2 (.int .i64 x2)).set 3 (.slice none 0 0)).drew
      refine bodyPost_ret (results_tc rfl _ _ rb_ TRT _ (0, 0) _ rfl hblk Try.underlying39 rfl rtsize) rfl ?_
      exact HQ'.out _ _ ⟨_, _, _, _, rfl, HB6.out.trans (hfin.below (by exact HB6.out.size) (fun k hk => by have := HRB.out; omega))⟩
set_option maxHeartbeats 4000000 in
set_option maxRecDepth 100000 in
theorem step06_5 (w : World) (A : Option Addr) (c : Nat) (l : List (Int × Int)) (key val hi : Int) (hl : l.length ≤ 1000000) (h : PRd w A l) (hc : l.length ≤ c) :
    Calls Try.prog 9 #[.slice A l.length c, .agg #[.int .i64 5, .int .i64 key, .int .i64 val, .int .i64 hi]] w fun e w' => ∃ nv x0 x1 x2, e = .returned (.tuple #[nv, .agg #[.bool x0, .int .i64 x1, .int .i64 x2, .slice none 0 0]]) ∧ Below w.heap.size w w' := by
  refine calls_hide fun Q HQ => ?_
  have HQ' := Lib.hid HQ
  have ha := (Below.refl w.heap.size w).alloc (Nat.le_refl _) (.cells #[.int .i64 5, .int .i64 key, .int .i64 val, .int .i64 hi] TOP)
  have hb := ha.alloc ha.size (.cells #[.bool false, .int .i64 0, .int .i64 0, .slice none 0 0] TRT)
  have hlk := ref06_look ((w.alloc (.cells #[.int .i64 5, .int .i64 key, .int .i64 val, .int .i64 hi] TOP)).alloc (.cells #[.bool false, .int .i64 0, .int .i64 0, .slice none 0 0] TRT)) A c l key (by omega) (h.below hb) hc
  rw [List.length_map] at hlk
  have HLK := Lib.hid hlk
  have HP := Lib.hid h
  have HB2 := Lib.hid hb
  have ho0 := (Blk.new w TOP [.int .i64 5, .int .i64 key, .int .i64 val, .int .i64 hi]).alloc (.cells #[.bool false, .int .i64 0, .int .i64 0, .slice none 0 0] TRT)
  have hr0 := Blk.new (w.alloc (.cells #[.int .i64 5, .int .i64 key, .int .i64 val, .int .i64 hi] TOP)) TRT [.bool false, .int .i64 0, .int .i64 0, .slice none 0 0]
  rw [World.size_alloc] at hr0
  have HO0 := Lib.hid ho0
  have HR0 := Lib.hid hr0
  have o1 := HO0.out.cell 1
  simp only [List.getElem?_cons_zero, List.getElem?_cons_succ] at o1
  clear HQ h ha hb hlk ho0 hr0
  go_enter Try.func9, Try.ntmps9
  go_wp2_with fail
  clear o1
  generalize (w.alloc (.cells #[.int .i64 5, .int .i64 key, .int .i64 val, .int .i64 hi] 37)).alloc (.cells #[.bool false, .int .i64 0, .int .i64 0, .slice none 0 0] 39) = w0 at *
  refine HLK.out.mono ?_
  rintro e w1 ⟨rfl, hb⟩
  have HB1 := Lib.hid (HB2.out.trans (hb.mono HB2.out.size))
  have HO1 := Lib.hid (HO0.out.below hb HO0.out.lt)
  have HR1 := Lib.hid (HR0.out.below hb HR0.out.lt)
  have hbz := (Below.refl w1.heap.size w1).alloc (Nat.le_refl _) (.cells #[.bool false, .int .i64 0, .int .i64 0, .slice none 0 0] TRT)
  have HQ2 := Lib.hid (Blk.new w1 TRT [.bool false, .int .i64 0, .int .i64 0, .slice none 0 0])
  have HO2 := Lib.hid (HO1.out.below hbz HO1.out.lt)
  have HR2 := Lib.hid (HR1.out.below hbz HR1.out.lt)
  have HB3 := Lib.hid (HB1.out.alloc HB1.out.size (.cells #[.bool false, .int .i64 0, .int .i64 0, .slice none 0 0] TRT))
  have HZ := Lib.hid (And.intro HB1.out.size HR1.out.lt)
  clear hb hbz HLK HB2 HO0 HR0
  generalize (lookL l key).2 = ok_ at *
  generalize (lookL l key).1 = v_ at *
  have o0 := HO2.out.cell 0
  have o1 := HO2.out.cell 1
  have o3 := HO2.out.cell 3
  have a0 := HQ2.out.cell 0
  have az0 : (w1.alloc (.cells #[.bool false, .int .i64 0, .int .i64 0, .slice none 0 0] TRT)).frozen? ⟨w1.heap.size, 0, none⟩ = false := HQ2.out.free _ rfl
  have a1 := HQ2.out.cell 1
  have az1 : (w1.alloc (.cells #[.bool false, .int .i64 0, .int .i64 0, .slice none 0 0] TRT)).frozen? ⟨w1.heap.size, 1, none⟩ = false := HQ2.out.free _ rfl
  have a2 := HQ2.out.cell 2
  have az2 : (w1.alloc (.cells #[.bool false, .int .i64 0, .int .i64 0, .slice none 0 0] TRT)).frozen? ⟨w1.heap.size, 2, none⟩ = false := HQ2.out.free _ rfl
  have a3 := HQ2.out.cell 3
  have az3 : (w1.alloc (.cells #[.bool false, .int .i64 0, .int .i64 0, .slice none 0 0] TRT)).frozen? ⟨w1.heap.size, 3, none⟩ = false := HQ2.out.free _ rfl
  simp only [List.getElem?_cons_zero, List.getElem?_cons_succ] at o0 o1 o3 a0 a1 a2 a3
  go_wp2_with fail
  have hbq := (Below.refl w1.heap.size w1).alloc (Nat.le_refl _) (.cells #[.bool false, .int .i64 0, .int .i64 0, .slice none 0 0] TRT)
  have HBQ := Lib.hid hbq
  clear hbq o0 o1 o3 a0 a1 a2 a3 az0 az1 az2 az3 HO2 HR2 HB3
  generalize w1.alloc (.cells #[.bool false, .int .i64 0, .int .i64 0, .slice none 0 0] 39) = w2 at *
  generalize hrb : w.heap.size + 1 = rb_ at *
  have HRB := Lib.hid hrb
  clear hrb
  generalize hqb : w1.heap.size = qb_ at *
  have HQB := Lib.hid hqb
  clear hqb
  go_loopw [9] (fun k wr => ∃ j : Nat, j ≤ l.length ∧ k = .int .i64 j ∧ ∃ (x0 : Bool) (x1 x2 : Int), Blk wr qb_ TRT [.bool x0, .int .i64 x1, .int .i64 x2, .slice none 0 0] ∧ Below qb_ w1 wr) (fun k _ => l.length - (intOf k).toNat)
  case atStart => exact ⟨0, Nat.zero_le _, rfl, false, 0, 0, HQ2.out, HBQ.out⟩
  case round =>
    obtain ⟨j, hj, rfl, x0, x1, x2, hqx, hbel⟩ := hrel
    have HQX := Lib.hid hqx
    clear hqx
    have HBL := Lib.hid hbel
    clear hbel
    by_cases hlt : j < l.length
    · have HBX : Hid (Below w1.heap.size w1 wr) := by rw [HQB.out]; exact HBL
      obtain ⟨ad, hA, c0, c1⟩ := pair_at ((HP.out.below HB1.out).below HBX.out) (i := j) (by simpa using hlt)
      subst hA
      have HOX := Lib.hid (HO1.out.below HBX.out HO1.out.lt)
      have HQL := Lib.hid HQX.out.lt
      generalize (pr ((l.map sp)[j]'(by simpa using hlt))) = p at *
      obtain ⟨pk, pw⟩ := p
      simp only at c0 c1
      go_wp2_with fail
      have hz0 := (Below.refl wr.heap.size wr).alloc (Nat.le_refl _) (.cells #[.bool false, .int .i64 0, .int .i64 0, .slice none 0 0] TRT)
      have c0' := pw_cell_below hz0 c0
      have c1' := pw_cell_below hz0 c1
      have HZ1 := Blk.new wr TRT [.bool false, .int .i64 0, .int .i64 0, .slice none 0 0]
      have d0 := HZ1.cell 0
      have dz0 : (wr.alloc (.cells #[.bool false, .int .i64 0, .int .i64 0, .slice none 0 0] TRT)).frozen? ⟨wr.heap.size, 0, none⟩ = false := HZ1.free _ rfl
      have d1 := HZ1.cell 1
      have dz1 : (wr.alloc (.cells #[.bool false, .int .i64 0, .int .i64 0, .slice none 0 0] TRT)).frozen? ⟨wr.heap.size, 1, none⟩ = false := HZ1.free _ rfl
      have d2 := HZ1.cell 2
      have dz2 : (wr.alloc (.cells #[.bool false, .int .i64 0, .int .i64 0, .slice none 0 0] TRT)).frozen? ⟨wr.heap.size, 2, none⟩ = false := HZ1.free _ rfl
      have d3 := HZ1.cell 3
      have dz3 : (wr.alloc (.cells #[.bool false, .int .i64 0, .int .i64 0, .slice none 0 0] TRT)).frozen? ⟨wr.heap.size, 3, none⟩ = false := HZ1.free _ rfl
      simp only [List.getElem?_cons_zero, List.getElem?_cons_succ] at d0 d1 d2 d3
      clear hz0 HZ1
      go_region
      have hz5 := ((Below.refl wr.heap.size wr).alloc (Nat.le_refl _) (.cells #[.bool true, .int .i64 pk, .int .i64 pw, .slice none 0 0] TRT)).drew
      have HT5 := Lib.hid ((Blk.new wr TRT [.bool true, .int .i64 pk, .int .i64 pw, .slice none 0 0]).drew)
      have HB5 := Lib.hid (HBL.out.trans (hz5.mono (by have := HQL.out; omega)))
      have HQ5 := Lib.hid (HQX.out.below hz5 HQL.out)
      have HO5 := Lib.hid (HOX.out.below hz5 HOX.out.lt)
      have k5 := pw_cell_below hz5 c0
      clear hz5 c0 c1 c0' c1' d0 d1 d2 d3 dz0 dz1 dz2 dz3 HBL HQX HOX
      generalize (wr.alloc (.cells #[.bool true, .int .i64 pk, .int .i64 pw, .slice none 0 0] 39)).drew = w5 at *
      have HTL := Lib.hid (show qb_ < wr.heap.size from HQL.out)
      generalize wr.heap.size = tb at *
      have o0 := HO5.out.cell 0
      have o1 := HO5.out.cell 1
      have a0 := HQ5.out.cell 0
      simp only [List.getElem?_cons_zero, List.getElem?_cons_succ] at o0 o1 a0
      cases x0 with
      | true =>
        go_wp2_with fail
        go_quiet (fail)
        have hdn := pw_below_drewN (Below.refl w5.heap.size w5) nq
        have HQ6 := Lib.hid (HQ5.out.below hdn HQ5.out.lt)
        have HB6 := Lib.hid (HB5.out.trans (hdn.mono (Nat.le_of_lt HQ5.out.lt)))
        clear hdn o0 o1 a0 k5 HT5 HQ5 HB5 HO5
        go_wp2
        go_roundw
        case rel => exact ⟨j + 1, by omega, by go_num, true, x1, x2, HQ6.out, HB6.out⟩
        case measure => simp [intOf]; omega
      | false =>
        by_cases hgt : key < pk
        · have hgb : decide (key < pk) = true := decide_eq_true hgt
          clear hgt
          go_wp2_with fail
          go_quiet (fail)
          have hdn := pw_below_drewN (Below.refl w5.heap.size w5) nq
          have HT6 := Lib.hid (HT5.out.below hdn HT5.out.lt)
          have HQ6 := Lib.hid (HQ5.out.below hdn HQ5.out.lt)
          have HB6 := Lib.hid (HB5.out.trans (hdn.mono (Nat.le_of_lt HQ5.out.lt)))
          clear hdn o0 o1 a0 k5 HT5 HQ5 HB5 HO5
          generalize w5.drewN nq = w6 at *
          have a0 := HQ6.out.cell 0
          have az0 : w6.frozen? ⟨qb_, 0, none⟩ = false := HQ6.out.free _ rfl
          have e0 := HT6.out.cell 0
          have a1 := HQ6.out.cell 1
          have az1 : w6.frozen? ⟨qb_, 1, none⟩ = false := HQ6.out.free _ rfl
          have e1 := HT6.out.cell 1
          have a2 := HQ6.out.cell 2
          have az2 : w6.frozen? ⟨qb_, 2, none⟩ = false := HQ6.out.free _ rfl
          have e2 := HT6.out.cell 2
          have a3 := HQ6.out.cell 3
          have az3 : w6.frozen? ⟨qb_, 3, none⟩ = false := HQ6.out.free _ rfl
          have e3 := HT6.out.cell 3
          simp only [List.getElem?_cons_zero, List.getElem?_cons_succ] at a0 a1 a2 a3 e0 e1 e2 e3
          have hq3 : Blk _ qb_ TRT [.bool true, .int .i64 pk, .int .i64 pw, .slice none 0 0] := (((HQ6.out.set 0 (.bool true)).set 1 (.int .i64 pk)).set 2 (.int .i64 pw)).set 3 (.slice none 0 0)
          have hfq : Fr w6 _ (fun k => k = qb_) := ((((Fr.refl w6 (fun k => k = qb_)).setCell ⟨qb_, 0, none⟩ (.bool true) (fun _ => rfl)).setCell ⟨qb_, 1, none⟩ (.int .i64 pk) (fun _ => rfl)).setCell ⟨qb_, 2, none⟩ (.int .i64 pw) (fun _ => rfl)).setCell ⟨qb_, 3, none⟩ (.slice none 0 0) (fun _ => rfl)
          have HFIN := Lib.hid (And.intro hq3 (HB6.out.trans (hfq.below (Nat.le_of_lt HQ6.out.lt) (fun k hk => by rw [hk]; exact Nat.le_refl _))))
          clear hq3 hfq
          go_wp2
          go_roundw
          case rel => exact ⟨j + 1, by omega, by go_num, true, pk, pw, HFIN.out.1, HFIN.out.2⟩
          case measure => simp [intOf]; omega
        · have hgb : decide (key < pk) = false := decide_eq_false hgt
          clear hgt
          go_wp2_with fail
          go_quiet (fail)
          have hdn := pw_below_drewN (Below.refl w5.heap.size w5) nq
          have HQ6 := Lib.hid (HQ5.out.below hdn HQ5.out.lt)
          have HB6 := Lib.hid (HB5.out.trans (hdn.mono (Nat.le_of_lt HQ5.out.lt)))
          clear hdn o0 o1 a0 k5 HT5 HQ5 HB5 HO5
          go_wp2
          go_roundw
          case rel => exact ⟨j + 1, by omega, by go_num, false, x1, x2, HQ6.out, HB6.out⟩
          case measure => simp [intOf]; omega
    · have hje : j = l.length := by omega
      subst hje
      have HBX : Hid (Below w1.heap.size w1 wr) := by rw [HQB.out]; exact HBL
      have hcl := ((HP.out.below HB1.out).below HBX.out).cells
      have o0 := (HO1.out.below HBX.out HO1.out.lt).cell 0
      simp only [List.getElem?_cons_zero] at o0
      have HBW := Lib.hid (HB1.out.trans (HBX.out.mono HB1.out.size))
      have HCL := Lib.hid (fun (o : Obj) => And.intro hcl.1 (fun hn : 0 < l.length => by
        obtain ⟨ad, e, hc9⟩ := hcl.2 hn
        exact (⟨ad, e, fun j u hu => pw_cell_below ((Below.refl wr.heap.size wr).alloc (Nat.le_refl _) o) (hc9 j u hu)⟩ : ∃ ad, A = some ad ∧ ∀ j u, (l.flatMap pcells)[j]? = some u → (wr.alloc o).cell? (ad.add j) = some u)))
      clear hcl
      go_wp2_with (at_builtin; refine print_append_spread (W := wr) rfl _ _ TPAs TPA (.agg #[.int .i64 0, .int .i64 0]) 2 16 (by decide) rfl Try.underlying22 pinfo_pair rfl (A := A) (n := l.length) (c := c) (us := l.flatMap pcells) rfl rfl (HCL.out _) (one_pairs l) (by simp only [maxLen]; omega) (by omega) ?_)
      intro v6 w6 ho6 hb6
      have HPW := Lib.hid (PRow.of_own (Go.Proofs.YteeficpjggimcaaW.PrintWords.own_weaken ho6 HBW.out.size))
      have HB6 := Lib.hid (HBW.out.trans (hb6.mono HBW.out.size))
      have hb26 := hb6
      have HQ6 := Lib.hid (HQX.out.below hb26 HQX.out.lt)
      have HR6 := Lib.hid ((HR1.out.below HBX.out HR1.out.lt).below hb26 (Nat.lt_of_lt_of_le HR1.out.lt HBX.out.size))
      have HO6 := Lib.hid ((HO1.out.below HBX.out HO1.out.lt).below hb26 (Nat.lt_of_lt_of_le HO1.out.lt HBX.out.size))
      have HP6 := Lib.hid (HP.out.below HB6.out)
      have o1 := HO6.out.cell 0
      have o2 := HO6.out.cell 1
      have o3 := HO6.out.cell 2
      simp only [List.getElem?_cons_zero, List.getElem?_cons_succ] at o1 o2 o3
      clear ho6 hb6 hb26 o0 HBW HBL HCL
      have hne : qb_ ≠ rb_ := by have := HRB.out; have := HQB.out; have := HZ.out.1; have := HZ.out.2; omega
      have hne2 := hne.symm
      go_wp2_with fail
      have hdr := (Below.refl w6.heap.size w6).drew
      have HQ7 := Lib.hid (HQ6.out.below hdr HQ6.out.lt)
      have HR7 := Lib.hid (HR6.out.below hdr HR6.out.lt)
      clear hdr
      have q0 := HQ6.out.cell 0
      have q0' := HQ7.out.cell 0
      have r0 := HR6.out.cell 0
      have r0' := HR7.out.cell 0
      have rz0 : w6.frozen? ⟨rb_, 0, none⟩ = false := HR6.out.free _ rfl
      have rz0' : w6.drew.frozen? ⟨rb_, 0, none⟩ = false := HR7.out.free _ rfl
      have q1 := HQ6.out.cell 1
      have q1' := HQ7.out.cell 1
      have r1 := HR6.out.cell 1
      have r1' := HR7.out.cell 1
      have rz1 : w6.frozen? ⟨rb_, 1, none⟩ = false := HR6.out.free _ rfl
      have rz1' : w6.drew.frozen? ⟨rb_, 1, none⟩ = false := HR7.out.free _ rfl
      have q2 := HQ6.out.cell 2
      have q2' := HQ7.out.cell 2
      have r2 := HR6.out.cell 2
      have r2' := HR7.out.cell 2
      have rz2 : w6.frozen? ⟨rb_, 2, none⟩ = false := HR6.out.free _ rfl
      have rz2' : w6.drew.frozen? ⟨rb_, 2, none⟩ = false := HR7.out.free _ rfl
      have q3 := HQ6.out.cell 3
      have q3' := HQ7.out.cell 3
      have r3 := HR6.out.cell 3
      have r3' := HR7.out.cell 3
      have rz3 : w6.frozen? ⟨rb_, 3, none⟩ = false := HR6.out.free _ rfl
      have rz3' : w6.drew.frozen? ⟨rb_, 3, none⟩ = false := HR7.out.free _ rfl
      simp only [List.getElem?_cons_zero, List.getElem?_cons_succ] at q0 q1 q2 q3 q0' q1' q2' q3' r0 r1 r2 r3 r0' r1' r2' r3'
      go_region
      go_wp2
      have hfin : Fr w6 _ (fun k => k = rb_) := (((((Fr.refl w6 (fun k => k = rb_)).setCell ⟨rb_, 0, none⟩ (.bool x0) (fun _ => rfl)).setCell ⟨rb_, 1, none⟩ (.int .i64 x1) (fun _ => rfl)).setCell ⟨rb_, 2, none⟩ (.int .i64 x2) (fun _ => rfl)).setCell ⟨rb_, 3, none⟩ (.slice none 0 0) (fun _ => rfl)).drew
      have hblk : Blk _ rb_ TRT [.bool x0, .int .i64 x1, .int .i64 x2, .slice none 0 0] := ((((HR6.out.set 0 (.bool x0)).set 1 (.int .i64 x1)).set 2 (.int .i64 x2)).set 3 (.slice none 0 0)).drew
      refine bodyPost_ret (results_tc rfl _ _ rb_ TRT _ (0, 0) _ rfl hblk Try.underlying39 rfl rtsize) rfl ?_
      exact HQ'.out _ _ ⟨_, _, _, _, rfl, HB6.out.trans (hfin.below (by exact HB6.out.size) (fun k hk => by have := HRB.out; omega))⟩
set_option maxHeartbeats 4000000 in
set_option maxRecDepth 100000 in
theorem step06_6 (w : World) (A : Option Addr) (c : Nat) (l : List (Int × Int)) (key val hi : Int) (hl : l.length ≤ 1000000) (h : PRd w A l) (hc : l.length ≤ c) :
    Calls Try.prog 9 #[.slice A l.length c, .agg #[.int .i64 6, .int .i64 key, .int .i64 val, .int .i64 hi]] w fun e w' => ∃ nv x0 x1 x2, e = .returned (.tuple #[nv, .agg #[.bool x0, .int .i64 x1, .int .i64 x2, .slice none 0 0]]) ∧ Below w.heap.size w w' := by
  refine calls_hide fun Q HQ => ?_
  have HQ' := Lib.hid HQ
  have ha := (Below.refl w.heap.size w).alloc (Nat.le_refl _) (.cells #[.int .i64 6, .int .i64 key, .int .i64 val, .int .i64 hi] TOP)
  have hb := ha.alloc ha.size (.cells #[.bool false, .int .i64 0, .int .i64 0, .slice none 0 0] TRT)
  have hlk := ref06_look ((w.alloc (.cells #[.int .i64 6, .int .i64 key, .int .i64 val, .int .i64 hi] TOP)).alloc (.cells #[.bool false, .int .i64 0, .int .i64 0, .slice none 0 0] TRT)) A c l key (by omega) (h.below hb) hc
  rw [List.length_map] at hlk
  have HLK := Lib.hid hlk
  have HP := Lib.hid h
  have HB2 := Lib.hid hb
  have ho0 := (Blk.new w TOP [.int .i64 6, .int .i64 key, .int .i64 val, .int .i64 hi]).alloc (.cells #[.bool false, .int .i64 0, .int .i64 0, .slice none 0 0] TRT)
  have hr0 := Blk.new (w.alloc (.cells #[.int .i64 6, .int .i64 key, .int .i64 val, .int .i64 hi] TOP)) TRT [.bool false, .int .i64 0, .int .i64 0, .slice none 0 0]
  rw [World.size_alloc] at hr0
  have HO0 := Lib.hid ho0
  have HR0 := Lib.hid hr0
  have o1 := HO0.out.cell 1
  simp only [List.getElem?_cons_zero, List.getElem?_cons_succ] at o1
  clear HQ h ha hb hlk ho0 hr0
  go_enter Try.func9, Try.ntmps9
  go_wp2_with fail
  clear o1
  generalize (w.alloc (.cells #[.int .i64 6, .int .i64 key, .int .i64 val, .int .i64 hi] 37)).alloc (.cells #[.bool false, .int .i64 0, .int .i64 0, .slice none 0 0] 39) = w0 at *
  refine HLK.out.mono ?_
  rintro e w1 ⟨rfl, hb⟩
  have HB1 := Lib.hid (HB2.out.trans (hb.mono HB2.out.size))
  have HO1 := Lib.hid (HO0.out.below hb HO0.out.lt)
  have HR1 := Lib.hid (HR0.out.below hb HR0.out.lt)
  have hbz := (Below.refl w1.heap.size w1).alloc (Nat.le_refl _) (.cells #[.bool false, .int .i64 0, .int .i64 0, .slice none 0 0] TRT)
  have HQ2 := Lib.hid (Blk.new w1 TRT [.bool false, .int .i64 0, .int .i64 0, .slice none 0 0])
  have HO2 := Lib.hid (HO1.out.below hbz HO1.out.lt)
  have HR2 := Lib.hid (HR1.out.below hbz HR1.out.lt)
  have HB3 := Lib.hid (HB1.out.alloc HB1.out.size (.cells #[.bool false, .int .i64 0, .int .i64 0, .slice none 0 0] TRT))
  have HZ := Lib.hid (And.intro HB1.out.size HR1.out.lt)
  clear hb hbz HLK HB2 HO0 HR0
  generalize (lookL l key).2 = ok_ at *
  generalize (lookL l key).1 = v_ at *
  have o0 := HO2.out.cell 0
  have o1 := HO2.out.cell 1
  have o3 := HO2.out.cell 3
  have a0 := HQ2.out.cell 0
  have az0 : (w1.alloc (.cells #[.bool false, .int .i64 0, .int .i64 0, .slice none 0 0] TRT)).frozen? ⟨w1.heap.size, 0, none⟩ = false := HQ2.out.free _ rfl
  have a1 := HQ2.out.cell 1
  have az1 : (w1.alloc (.cells #[.bool false, .int .i64 0, .int .i64 0, .slice none 0 0] TRT)).frozen? ⟨w1.heap.size, 1, none⟩ = false := HQ2.out.free _ rfl
  have a2 := HQ2.out.cell 2
  have az2 : (w1.alloc (.cells #[.bool false, .int .i64 0, .int .i64 0, .slice none 0 0] TRT)).frozen? ⟨w1.heap.size, 2, none⟩ = false := HQ2.out.free _ rfl
  have a3 := HQ2.out.cell 3
  have az3 : (w1.alloc (.cells #[.bool false, .int .i64 0, .int .i64 0, .slice none 0 0] TRT)).frozen? ⟨w1.heap.size, 3, none⟩ = false := HQ2.out.free _ rfl
  simp only [List.getElem?_cons_zero, List.getElem?_cons_succ] at o0 o1 o3 a0 a1 a2 a3
  go_wp2_with fail
  have hbq := (Below.refl w1.heap.size w1).alloc (Nat.le_refl _) (.cells #[.bool false, .int .i64 0, .int .i64 0, .slice none 0 0] TRT)
  have HBQ := Lib.hid hbq
  clear hbq o0 o1 o3 a0 a1 a2 a3 az0 az1 az2 az3 HO2 HR2 HB3
  generalize w1.alloc (.cells #[.bool false, .int .i64 0, .int .i64 0, .slice none 0 0] 39) = w2 at *
  generalize hrb : w.heap.size + 1 = rb_ at *
  have HRB := Lib.hid hrb
  clear hrb
  generalize hqb : w1.heap.size = qb_ at *
  have HQB := Lib.hid hqb
  clear hqb
  go_loopw [9] (fun k wr => ∃ j : Nat, j ≤ l.length ∧ k = .int .i64 j ∧ ∃ (x0 : Bool) (x1 x2 : Int), Blk wr qb_ TRT [.bool x0, .int .i64 x1, .int .i64 x2, .slice none 0 0] ∧ Below qb_ w1 wr) (fun k _ => l.length - (intOf k).toNat)
  case atStart => exact ⟨0, Nat.zero_le _, rfl, false, 0, 0, HQ2.out, HBQ.out⟩
  case round =>
    obtain ⟨j, hj, rfl, x0, x1, x2, hqx, hbel⟩ := hrel
    have HQX := Lib.hid hqx
    clear hqx
    have HBL := Lib.hid hbel
    clear hbel
    by_cases hlt : j < l.length
    · have HBX : Hid (Below w1.heap.size w1 wr) := by rw [HQB.out]; exact HBL
      obtain ⟨ad, hA, c0, c1⟩ := pair_at ((HP.out.below HB1.out).below HBX.out) (i := j) (by simpa using hlt)
      subst hA
      have HOX := Lib.hid (HO1.out.below HBX.out HO1.out.lt)
      have HQL := Lib.hid HQX.out.lt
      generalize (pr ((l.map sp)[j]'(by simpa using hlt))) = p at *
      obtain ⟨pk, pw⟩ := p
      simp only at c0 c1
      go_wp2_with fail
      have hz0 := (Below.refl wr.heap.size wr).alloc (Nat.le_refl _) (.cells #[.bool false, .int .i64 0, .int .i64 0, .slice none 0 0] TRT)
      have c0' := pw_cell_below hz0 c0
      have c1' := pw_cell_below hz0 c1
      have HZ1 := Blk.new wr TRT [.bool false, .int .i64 0, .int .i64 0, .slice none 0 0]
      have d0 := HZ1.cell 0
      have dz0 : (wr.alloc (.cells #[.bool false, .int .i64 0, .int .i64 0, .slice none 0 0] TRT)).frozen? ⟨wr.heap.size, 0, none⟩ = false := HZ1.free _ rfl
      have d1 := HZ1.cell 1
      have dz1 : (wr.alloc (.cells #[.bool false, .int .i64 0, .int .i64 0, .slice none 0 0] TRT)).frozen? ⟨wr.heap.size, 1, none⟩ = false := HZ1.free _ rfl
      have d2 := HZ1.cell 2
      have dz2 : (wr.alloc (.cells #[.bool false, .int .i64 0, .int .i64 0, .slice none 0 0] TRT)).frozen? ⟨wr.heap.size, 2, none⟩ = false := HZ1.free _ rfl
      have d3 := HZ1.cell 3
      have dz3 : (wr.alloc (.cells #[.bool false, .int .i64 0, .int .i64 0, .slice none 0 0] TRT)).frozen? ⟨wr.heap.size, 3, none⟩ = false := HZ1.free _ rfl
      simp only [List.getElem?_cons_zero, List.getElem?_cons_succ] at d0 d1 d2 d3
      clear hz0 HZ1
      go_region
      have hz5 := ((Below.refl wr.heap.size wr).alloc (Nat.le_refl _) (.cells #[.bool true, .int .i64 pk, .int .i64 pw, .slice none 0 0] TRT)).drew
      have HT5 := Lib.hid ((Blk.new wr TRT [.bool true, .int .i64 pk, .int .i64 pw, .slice none 0 0]).drew)
      have HB5 := Lib.hid (HBL.out.trans (hz5.mono (by have := HQL.out; omega)))
      have HQ5 := Lib.hid (HQX.out.below hz5 HQL.out)
      have HO5 := Lib.hid (HOX.out.below hz5 HOX.out.lt)
      have k5 := pw_cell_below hz5 c0
      clear hz5 c0 c1 c0' c1' d0 d1 d2 d3 dz0 dz1 dz2 dz3 HBL HQX HOX
      generalize (wr.alloc (.cells #[.bool true, .int .i64 pk, .int .i64 pw, .slice none 0 0] 39)).drew = w5 at *
      have HTL := Lib.hid (show qb_ < wr.heap.size from HQL.out)
      generalize wr.heap.size = tb at *
      have o0 := HO5.out.cell 0
      have o1 := HO5.out.cell 1
      have a0 := HQ5.out.cell 0
      simp only [List.getElem?_cons_zero, List.getElem?_cons_succ] at o0 o1 a0
      by_cases hgt : pk < key
      · skip
        go_wp2_with fail
        go_quiet (fail)
        have hdn := pw_below_drewN (Below.refl w5.heap.size w5) nq
        have HT6 := Lib.hid (HT5.out.below hdn HT5.out.lt)
        have HQ6 := Lib.hid (HQ5.out.below hdn HQ5.out.lt)
        have HB6 := Lib.hid (HB5.out.trans (hdn.mono (Nat.le_of_lt HQ5.out.lt)))
        clear hdn o0 o1 a0 k5 HT5 HQ5 HB5 HO5
        generalize w5.drewN nq = w6 at *
        have a0 := HQ6.out.cell 0
        have az0 : w6.frozen? ⟨qb_, 0, none⟩ = false := HQ6.out.free _ rfl
        have e0 := HT6.out.cell 0
        have a1 := HQ6.out.cell 1
        have az1 : w6.frozen? ⟨qb_, 1, none⟩ = false := HQ6.out.free _ rfl
        have e1 := HT6.out.cell 1
        have a2 := HQ6.out.cell 2
        have az2 : w6.frozen? ⟨qb_, 2, none⟩ = false := HQ6.out.free _ rfl
        have e2 := HT6.out.cell 2
        have a3 := HQ6.out.cell 3
        have az3 : w6.frozen? ⟨qb_, 3, none⟩ = false := HQ6.out.free _ rfl
        have e3 := HT6.out.cell 3
        simp only [List.getElem?_cons_zero, List.getElem?_cons_succ] at a0 a1 a2 a3 e0 e1 e2 e3
        have hq3 : Blk _ qb_ TRT [.bool true, .int .i64 pk, .int .i64 pw, .slice none 0 0] := (((HQ6.out.set 0 (.bool true)).set 1 (.int .i64 pk)).set 2 (.int .i64 pw)).set 3 (.slice none 0 0)
        have hfq : Fr w6 _ (fun k => k = qb_) := ((((Fr.refl w6 (fun k => k = qb_)).setCell ⟨qb_, 0, none⟩ (.bool true) (fun _ => rfl)).setCell ⟨qb_, 1, none⟩ (.int .i64 pk) (fun _ => rfl)).setCell ⟨qb_, 2, none⟩ (.int .i64 pw) (fun _ => rfl)).setCell ⟨qb_, 3, none⟩ (.slice none 0 0) (fun _ => rfl)
        have HFIN := Lib.hid (And.intro hq3 (HB6.out.trans (hfq.below (Nat.le_of_lt HQ6.out.lt) (fun k hk => by rw [hk]; exact Nat.le_refl _))))
        clear hq3 hfq
        go_wp2
        go_roundw
        case rel => exact ⟨j + 1, by omega, by go_num, true, pk, pw, HFIN.out.1, HFIN.out.2⟩
        case measure => simp [intOf]; omega
      · skip
        go_wp2_with fail
        go_quiet (fail)
        have hdn := pw_below_drewN (Below.refl w5.heap.size w5) nq
        have HQ6 := Lib.hid (HQ5.out.below hdn HQ5.out.lt)
        have HB6 := Lib.hid (HB5.out.trans (hdn.mono (Nat.le_of_lt HQ5.out.lt)))
        clear hdn o0 o1 a0 k5 HT5 HQ5 HB5 HO5
        go_wp2
        go_roundw
        case rel => exact ⟨j + 1, by omega, by go_num, x0, x1, x2, HQ6.out, HB6.out⟩
        case measure => simp [intOf]; omega
    · have hje : j = l.length := by omega
      subst hje
      have HBX : Hid (Below w1.heap.size w1 wr) := by rw [HQB.out]; exact HBL
      have hcl := ((HP.out.below HB1.out).below HBX.out).cells
      have o0 := (HO1.out.below HBX.out HO1.out.lt).cell 0
      simp only [List.getElem?_cons_zero] at o0
      have HBW := Lib.hid (HB1.out.trans (HBX.out.mono HB1.out.size))
      have HCL := Lib.hid (fun (o : Obj) => And.intro hcl.1 (fun hn : 0 < l.length => by
        obtain ⟨ad, e, hc9⟩ := hcl.2 hn
        exact (⟨ad, e, fun j u hu => pw_cell_below ((Below.refl wr.heap.size wr).alloc (Nat.le_refl _) o) (hc9 j u hu)⟩ : ∃ ad, A = some ad ∧ ∀ j u, (l.flatMap pcells)[j]? = some u → (wr.alloc o).cell? (ad.add j) = some u)))
      clear hcl
      go_wp2_with (at_builtin; refine print_append_spread (W := wr) rfl _ _ TPAs TPA (.agg #[.int .i64 0, .int .i64 0]) 2 16 (by decide) rfl Try.underlying22 pinfo_pair rfl (A := A) (n := l.length) (c := c) (us := l.flatMap pcells) rfl rfl (HCL.out _) (one_pairs l) (by simp only [maxLen]; omega) (by omega) ?_)
      intro v6 w6 ho6 hb6
      have HPW := Lib.hid (PRow.of_own (Go.Proofs.YteeficpjggimcaaW.PrintWords.own_weaken ho6 HBW.out.size))
      have HB6 := Lib.hid (HBW.out.trans (hb6.mono HBW.out.size))
      have hb26 := hb6
      have HQ6 := Lib.hid (HQX.out.below hb26 HQX.out.lt)
      have HR6 := Lib.hid ((HR1.out.below HBX.out HR1.out.lt).below hb26 (Nat.lt_of_lt_of_le HR1.out.lt HBX.out.size))
      have HO6 := Lib.hid ((HO1.out.below HBX.out HO1.out.lt).below hb26 (Nat.lt_of_lt_of_le HO1.out.lt HBX.out.size))
      have HP6 := Lib.hid (HP.out.below HB6.out)
      have o1 := HO6.out.cell 0
      have o2 := HO6.out.cell 1
      have o3 := HO6.out.cell 2
      simp only [List.getElem?_cons_zero, List.getElem?_cons_succ] at o1 o2 o3
      clear ho6 hb6 hb26 o0 HBW HBL HCL
      have hne : qb_ ≠ rb_ := by have := HRB.out; have := HQB.out; have := HZ.out.1; have := HZ.out.2; omega
      have hne2 := hne.symm
      go_wp2_with fail
      have hdr := (Below.refl w6.heap.size w6).drew
      have HQ7 := Lib.hid (HQ6.out.below hdr HQ6.out.lt)
      have HR7 := Lib.hid (HR6.out.below hdr HR6.out.lt)
      clear hdr
      have q0 := HQ6.out.cell 0
      have q0' := HQ7.out.cell 0
      have r0 := HR6.out.cell 0
      have r0' := HR7.out.cell 0
      have rz0 : w6.frozen? ⟨rb_, 0, none⟩ = false := HR6.out.free _ rfl
      have rz0' : w6.drew.frozen? ⟨rb_, 0, none⟩ = false := HR7.out.free _ rfl
      have q1 := HQ6.out.cell 1
      have q1' := HQ7.out.cell 1
      have r1 := HR6.out.cell 1
      have r1' := HR7.out.cell 1
      have rz1 : w6.frozen? ⟨rb_, 1, none⟩ = false := HR6.out.free _ rfl
      have rz1' : w6.drew.frozen? ⟨rb_, 1, none⟩ = false := HR7.out.free _ rfl
      have q2 := HQ6.out.cell 2
      have q2' := HQ7.out.cell 2
      have r2 := HR6.out.cell 2
      have r2' := HR7.out.cell 2
      have rz2 : w6.frozen? ⟨rb_, 2, none⟩ = false := HR6.out.free _ rfl
      have rz2' : w6.drew.frozen? ⟨rb_, 2, none⟩ = false := HR7.out.free _ rfl
      have q3 := HQ6.out.cell 3
      have q3' := HQ7.out.cell 3
      have r3 := HR6.out.cell 3
      have r3' := HR7.out.cell 3
      have rz3 : w6.frozen? ⟨rb_, 3, none⟩ = false := HR6.out.free _ rfl
      have rz3' : w6.drew.frozen? ⟨rb_, 3, none⟩ = false := HR7.out.free _ rfl
      simp only [List.getElem?_cons_zero, List.getElem?_cons_succ] at q0 q1 q2 q3 q0' q1' q2' q3' r0 r1 r2 r3 r0' r1' r2' r3'
      go_region
      go_wp2
      have hfin : Fr w6 _ (fun k => k = rb_) := (((((Fr.refl w6 (fun k => k = rb_)).setCell ⟨rb_, 0, none⟩ (.bool x0) (fun _ => rfl)).setCell ⟨rb_, 1, none⟩ (.int .i64 x1) (fun _ => rfl)).setCell ⟨rb_, 2, none⟩ (.int .i64 x2) (fun _ => rfl)).setCell ⟨rb_, 3, none⟩ (.slice none 0 0) (fun _ => rfl)).drew
      have hblk : Blk _ rb_ TRT [.bool x0, .int .i64 x1, .int .i64 x2, .slice none 0 0] := ((((HR6.out.set 0 (.bool x0)).set 1 (.int .i64 x1)).set 2 (.int .i64 x2)).set 3 (.slice none 0 0)).drew
      refine bodyPost_ret (results_tc rfl _ _ rb_ TRT _ (0, 0) _ rfl hblk Try.underlying39 rfl rtsize) rfl ?_
      exact HQ'.out _ _ ⟨_, _, _, _, rfl, HB6.out.trans (hfin.below (by exact HB6.out.size) (fun k hk => by have := HRB.out; omega))⟩
set_option maxHeartbeats 4000000 in
set_option maxRecDepth 100000 in
theorem step06_7 (w : World) (A : Option Addr) (c : Nat) (l : List (Int × Int)) (key val hi : Int) (hl : l.length ≤ 1000000) (h : PRd w A l) (hc : l.length ≤ c) :
    Calls Try.prog 9 #[.slice A l.length c, .agg #[.int .i64 7, .int .i64 key, .int .i64 val, .int .i64 hi]] w fun e w' => ∃ nv x0 x1 x2, e = .returned (.tuple #[nv, .agg #[.bool x0, .int .i64 x1, .int .i64 x2, .slice none 0 0]]) ∧ Below w.heap.size w w' := by
  refine calls_hide fun Q HQ => ?_
  have HQ' := Lib.hid HQ
  have ha := (Below.refl w.heap.size w).alloc (Nat.le_refl _) (.cells #[.int .i64 7, .int .i64 key, .int .i64 val, .int .i64 hi] TOP)
  have hb := ha.alloc ha.size (.cells #[.bool false, .int .i64 0, .int .i64 0, .slice none 0 0] TRT)
  have hlk := ref06_look ((w.alloc (.cells #[.int .i64 7, .int .i64 key, .int .i64 val, .int .i64 hi] TOP)).alloc (.cells #[.bool false, .int .i64 0, .int .i64 0, .slice none 0 0] TRT)) A c l key (by omega) (h.below hb) hc
  rw [List.length_map] at hlk
  have HLK := Lib.hid hlk
  have HP := Lib.hid h
  have HB2 := Lib.hid hb
  have ho0 := (Blk.new w TOP [.int .i64 7, .int .i64 key, .int .i64 val, .int .i64 hi]).alloc (.cells #[.bool false, .int .i64 0, .int .i64 0, .slice none 0 0] TRT)
  have hr0 := Blk.new (w.alloc (.cells #[.int .i64 7, .int .i64 key, .int .i64 val, .int .i64 hi] TOP)) TRT [.bool false, .int .i64 0, .int .i64 0, .slice none 0 0]
  rw [World.size_alloc] at hr0
  have HO0 := Lib.hid ho0
  have HR0 := Lib.hid hr0
  have o1 := HO0.out.cell 1
  simp only [List.getElem?_cons_zero, List.getElem?_cons_succ] at o1
  clear HQ h ha hb hlk ho0 hr0
  go_enter Try.func9, Try.ntmps9
  go_wp2_with fail
  clear o1
  generalize (w.alloc (.cells #[.int .i64 7, .int .i64 key, .int .i64 val, .int .i64 hi] 37)).alloc (.cells #[.bool false, .int .i64 0, .int .i64 0, .slice none 0 0] 39) = w0 at *
  refine HLK.out.mono ?_
  rintro e w1 ⟨rfl, hb⟩
  have HB1 := Lib.hid (HB2.out.trans (hb.mono HB2.out.size))
  have HO1 := Lib.hid (HO0.out.below hb HO0.out.lt)
  have HR1 := Lib.hid (HR0.out.below hb HR0.out.lt)
  have hbz := (Below.refl w1.heap.size w1).alloc (Nat.le_refl _) (.cells #[.bool false, .int .i64 0, .int .i64 0, .slice none 0 0] TRT)
  have HQ2 := Lib.hid (Blk.new w1 TRT [.bool false, .int .i64 0, .int .i64 0, .slice none 0 0])
  have HO2 := Lib.hid (HO1.out.below hbz HO1.out.lt)
  have HR2 := Lib.hid (HR1.out.below hbz HR1.out.lt)
  have HB3 := Lib.hid (HB1.out.alloc HB1.out.size (.cells #[.bool false, .int .i64 0, .int .i64 0, .slice none 0 0] TRT))
  have HZ := Lib.hid (And.intro HB1.out.size HR1.out.lt)
  clear hb hbz HLK HB2 HO0 HR0
  generalize (lookL l key).2 = ok_ at *
  generalize (lookL l key).1 = v_ at *
  have o0 := HO2.out.cell 0
  have o1 := HO2.out.cell 1
  have o3 := HO2.out.cell 3
  have a0 := HQ2.out.cell 0
  have az0 : (w1.alloc (.cells #[.bool false, .int .i64 0, .int .i64 0, .slice none 0 0] TRT)).frozen? ⟨w1.heap.size, 0, none⟩ = false := HQ2.out.free _ rfl
  have a1 := HQ2.out.cell 1
  have az1 : (w1.alloc (.cells #[.bool false, .int .i64 0, .int .i64 0, .slice none 0 0] TRT)).frozen? ⟨w1.heap.size, 1, none⟩ = false := HQ2.out.free _ rfl
  have a2 := HQ2.out.cell 2
  have az2 : (w1.alloc (.cells #[.bool false, .int .i64 0, .int .i64 0, .slice none 0 0] TRT)).frozen? ⟨w1.heap.size, 2, none⟩ = false := HQ2.out.free _ rfl
  have a3 := HQ2.out.cell 3
  have az3 : (w1.alloc (.cells #[.bool false, .int .i64 0, .int .i64 0, .slice none 0 0] TRT)).frozen? ⟨w1.heap.size, 3, none⟩ = false := HQ2.out.free _ rfl
  simp only [List.getElem?_cons_zero, List.getElem?_cons_succ] at o0 o1 o3 a0 a1 a2 a3
  go_wp2_with fail
  have hbq := (Below.refl w1.heap.size w1).alloc (Nat.le_refl _) (.cells #[.bool false, .int .i64 0, .int .i64 0, .slice none 0 0] TRT)
  have HBQ := Lib.hid hbq
  clear hbq o0 o1 o3 a0 a1 a2 a3 az0 az1 az2 az3 HO2 HR2 HB3
  generalize w1.alloc (.cells #[.bool false, .int .i64 0, .int .i64 0, .slice none 0 0] 39) = w2 at *
  generalize hrb : w.heap.size + 1 = rb_ at *
  have HRB := Lib.hid hrb
  clear hrb
  generalize hqb : w1.heap.size = qb_ at *
  have HQB := Lib.hid hqb
  clear hqb
  go_loopw [9] (fun k wr => ∃ j : Nat, j ≤ l.length ∧ k = .int .i64 j ∧ ∃ (x0 : Bool) (x1 x2 : Int), Blk wr qb_ TRT [.bool x0, .int .i64 x1, .int .i64 x2, .slice none 0 0] ∧ Below qb_ w1 wr) (fun k _ => l.length - (intOf k).toNat)
  case atStart => exact ⟨0, Nat.zero_le _, rfl, false, 0, 0, HQ2.out, HBQ.out⟩
  case round =>
    obtain ⟨j, hj, rfl, x0, x1, x2, hqx, hbel⟩ := hrel
    have HQX := Lib.hid hqx
    clear hqx
    have HBL := Lib.hid hbel
    clear hbel
    by_cases hlt : j < l.length
    · have HBX : Hid (Below w1.heap.size w1 wr) := by rw [HQB.out]; exact HBL
      obtain ⟨ad, hA, c0, c1⟩ := pair_at ((HP.out.below HB1.out).below HBX.out) (i := j) (by simpa using hlt)
      subst hA
      have HOX := Lib.hid (HO1.out.below HBX.out HO1.out.lt)
      have HQL := Lib.hid HQX.out.lt
      generalize (pr ((l.map sp)[j]'(by simpa using hlt))) = p at *
      obtain ⟨pk, pw⟩ := p
      simp only at c0 c1
      go_wp2_with fail
      have hz0 := (Below.refl wr.heap.size wr).alloc (Nat.le_refl _) (.cells #[.bool false, .int .i64 0, .int .i64 0, .slice none 0 0] TRT)
      have c0' := pw_cell_below hz0 c0
      have c1' := pw_cell_below hz0 c1
      have HZ1 := Blk.new wr TRT [.bool false, .int .i64 0, .int .i64 0, .slice none 0 0]
      have d0 := HZ1.cell 0
      have dz0 : (wr.alloc (.cells #[.bool false, .int .i64 0, .int .i64 0, .slice none 0 0] TRT)).frozen? ⟨wr.heap.size, 0, none⟩ = false := HZ1.free _ rfl
      have d1 := HZ1.cell 1
      have dz1 : (wr.alloc (.cells #[.bool false, .int .i64 0, .int .i64 0, .slice none 0 0] TRT)).frozen? ⟨wr.heap.size, 1, none⟩ = false := HZ1.free _ rfl
      have d2 := HZ1.cell 2
      have dz2 : (wr.alloc (.cells #[.bool false, .int .i64 0, .int .i64 0, .slice none 0 0] TRT)).frozen? ⟨wr.heap.size, 2, none⟩ = false := HZ1.free _ rfl
      have d3 := HZ1.cell 3
      have dz3 : (wr.alloc (.cells #[.bool false, .int .i64 0, .int .i64 0, .slice none 0 0] TRT)).frozen? ⟨wr.heap.size, 3, none⟩ = false := HZ1.free _ rfl
      simp only [List.getElem?_cons_zero, List.getElem?_cons_succ] at d0 d1 d2 d3
      clear hz0 HZ1
      go_region
      have hz5 := ((Below.refl wr.heap.size wr).alloc (Nat.le_refl _) (.cells #[.bool true, .int .i64 pk, .int .i64 pw, .slice none 0 0] TRT)).drew
      have HT5 := Lib.hid ((Blk.new wr TRT [.bool true, .int .i64 pk, .int .i64 pw, .slice none 0 0]).drew)
      have HB5 := Lib.hid (HBL.out.trans (hz5.mono (by have := HQL.out; omega)))
      have HQ5 := Lib.hid (HQX.out.below hz5 HQL.out)
      have HO5 := Lib.hid (HOX.out.below hz5 HOX.out.lt)
      have k5 := pw_cell_below hz5 c0
      clear hz5 c0 c1 c0' c1' d0 d1 d2 d3 dz0 dz1 dz2 dz3 HBL HQX HOX
      generalize (wr.alloc (.cells #[.bool true, .int .i64 pk, .int .i64 pw, .slice none 0 0] 39)).drew = w5 at *
      have HTL := Lib.hid (show qb_ < wr.heap.size from HQL.out)
      generalize wr.heap.size = tb at *
      have o0 := HO5.out.cell 0
      have o1 := HO5.out.cell 1
      have a0 := HQ5.out.cell 0
      simp only [List.getElem?_cons_zero, List.getElem?_cons_succ] at o0 o1 a0
      cases x0 with
      | true =>
        go_wp2_with fail
        go_quiet (fail)
        have hdn := pw_below_drewN (Below.refl w5.heap.size w5) nq
        have HQ6 := Lib.hid (HQ5.out.below hdn HQ5.out.lt)
        have HB6 := Lib.hid (HB5.out.trans (hdn.mono (Nat.le_of_lt HQ5.out.lt)))
        clear hdn o0 o1 a0 k5 HT5 HQ5 HB5 HO5
        go_wp2
        go_roundw
        case rel => exact ⟨j + 1, by omega, by go_num, true, x1, x2, HQ6.out, HB6.out⟩
        case measure => simp [intOf]; omega
      | false =>
        go_wp2_with fail
        go_quiet (fail)
        have hdn := pw_below_drewN (Below.refl w5.heap.size w5) nq
        have HT6 := Lib.hid (HT5.out.below hdn HT5.out.lt)
        have HQ6 := Lib.hid (HQ5.out.below hdn HQ5.out.lt)
        have HB6 := Lib.hid (HB5.out.trans (hdn.mono (Nat.le_of_lt HQ5.out.lt)))
        clear hdn o0 o1 a0 k5 HT5 HQ5 HB5 HO5
        generalize w5.drewN nq = w6 at *
        have a0 := HQ6.out.cell 0
        have az0 : w6.frozen? ⟨qb_, 0, none⟩ = false := HQ6.out.free _ rfl
        have e0 := HT6.out.cell 0
        have a1 := HQ6.out.cell 1
        have az1 : w6.frozen? ⟨qb_, 1, none⟩ = false := HQ6.out.free _ rfl
        have e1 := HT6.out.cell 1
        have a2 := HQ6.out.cell 2
        have az2 : w6.frozen? ⟨qb_, 2, none⟩ = false := HQ6.out.free _ rfl
        have e2 := HT6.out.cell 2
        have a3 := HQ6.out.cell 3
        have az3 : w6.frozen? ⟨qb_, 3, none⟩ = false := HQ6.out.free _ rfl
        have e3 := HT6.out.cell 3
        simp only [List.getElem?_cons_zero, List.getElem?_cons_succ] at a0 a1 a2 a3 e0 e1 e2 e3
        have hq3 : Blk _ qb_ TRT [.bool true, .int .i64 pk, .int .i64 pw, .slice none 0 0] := (((HQ6.out.set 0 (.bool true)).set 1 (.int .i64 pk)).set 2 (.int .i64 pw)).set 3 (.slice none 0 0)
        have hfq : Fr w6 _ (fun k => k = qb_) := ((((Fr.refl w6 (fun k => k = qb_)).setCell ⟨qb_, 0, none⟩ (.bool true) (fun _ => rfl)).setCell ⟨qb_, 1, none⟩ (.int .i64 pk) (fun _ => rfl)).setCell ⟨qb_, 2, none⟩ (.int .i64 pw) (fun _ => rfl)).setCell ⟨qb_, 3, none⟩ (.slice none 0 0) (fun _ => rfl)
        have HFIN := Lib.hid (And.intro hq3 (HB6.out.trans (hfq.below (Nat.le_of_lt HQ6.out.lt) (fun k hk => by rw [hk]; exact Nat.le_refl _))))
        clear hq3 hfq
        go_wp2
        go_roundw
        case rel => exact ⟨j + 1, by omega, by go_num, true, pk, pw, HFIN.out.1, HFIN.out.2⟩
        case measure => simp [intOf]; omega
    · have hje : j = l.length := by omega
      subst hje
      have HBX : Hid (Below w1.heap.size w1 wr) := by rw [HQB.out]; exact HBL
      have hcl := ((HP.out.below HB1.out).below HBX.out).cells
      have o0 := (HO1.out.below HBX.out HO1.out.lt).cell 0
      simp only [List.getElem?_cons_zero] at o0
      have HBW := Lib.hid (HB1.out.trans (HBX.out.mono HB1.out.size))
      have HCL := Lib.hid (fun (o : Obj) => And.intro hcl.1 (fun hn : 0 < l.length => by
        obtain ⟨ad, e, hc9⟩ := hcl.2 hn
        exact (⟨ad, e, fun j u hu => pw_cell_below ((Below.refl wr.heap.size wr).alloc (Nat.le_refl _) o) (hc9 j u hu)⟩ : ∃ ad, A = some ad ∧ ∀ j u, (l.flatMap pcells)[j]? = some u → (wr.alloc o).cell? (ad.add j) = some u)))
      clear hcl
      go_wp2_with (at_builtin; refine print_append_spread (W := wr) rfl _ _ TPAs TPA (.agg #[.int .i64 0, .int .i64 0]) 2 16 (by decide) rfl Try.underlying22 pinfo_pair rfl (A := A) (n := l.length) (c := c) (us := l.flatMap pcells) rfl rfl (HCL.out _) (one_pairs l) (by simp only [maxLen]; omega) (by omega) ?_)
      intro v6 w6 ho6 hb6
      have HPW := Lib.hid (PRow.of_own (Go.Proofs.YteeficpjggimcaaW.PrintWords.own_weaken ho6 HBW.out.size))
      have HB6 := Lib.hid (HBW.out.trans (hb6.mono HBW.out.size))
      have hb26 := hb6
      have HQ6 := Lib.hid (HQX.out.below hb26 HQX.out.lt)
      have HR6 := Lib.hid ((HR1.out.below HBX.out HR1.out.lt).below hb26 (Nat.lt_of_lt_of_le HR1.out.lt HBX.out.size))
      have HO6 := Lib.hid ((HO1.out.below HBX.out HO1.out.lt).below hb26 (Nat.lt_of_lt_of_le HO1.out.lt HBX.out.size))
      have HP6 := Lib.hid (HP.out.below HB6.out)
      have o1 := HO6.out.cell 0
      have o2 := HO6.out.cell 1
      have o3 := HO6.out.cell 2
      simp only [List.getElem?_cons_zero, List.getElem?_cons_succ] at o1 o2 o3
      clear ho6 hb6 hb26 o0 HBW HBL HCL
      have hne : qb_ ≠ rb_ := by have := HRB.out; have := HQB.out; have := HZ.out.1; have := HZ.out.2; omega
      have hne2 := hne.symm
      go_wp2_with fail
      have hdr := (Below.refl w6.heap.size w6).drew
      have HQ7 := Lib.hid (HQ6.out.below hdr HQ6.out.lt)
      have HR7 := Lib.hid (HR6.out.below hdr HR6.out.lt)
      clear hdr
      have q0 := HQ6.out.cell 0
      have q0' := HQ7.out.cell 0
      have r0 := HR6.out.cell 0
      have r0' := HR7.out.cell 0
      have rz0 : w6.frozen? ⟨rb_, 0, none⟩ = false := HR6.out.free _ rfl
      have rz0' : w6.drew.frozen? ⟨rb_, 0, none⟩ = false := HR7.out.free _ rfl
      have q1 := HQ6.out.cell 1
      have q1' := HQ7.out.cell 1
      have r1 := HR6.out.cell 1
      have r1' := HR7.out.cell 1
      have rz1 : w6.frozen? ⟨rb_, 1, none⟩ = false := HR6.out.free _ rfl
      have rz1' : w6.drew.frozen? ⟨rb_, 1, none⟩ = false := HR7.out.free _ rfl
      have q2 := HQ6.out.cell 2
      have q2' := HQ7.out.cell 2
      have r2 := HR6.out.cell 2
      have r2' := HR7.out.cell 2
      have rz2 : w6.frozen? ⟨rb_, 2, none⟩ = false := HR6.out.free _ rfl
      have rz2' : w6.drew.frozen? ⟨rb_, 2, none⟩ = false := HR7.out.free _ rfl
      have q3 := HQ6.out.cell 3
      have q3' := HQ7.out.cell 3
      have r3 := HR6.out.cell 3
      have r3' := HR7.out.cell 3
      have rz3 : w6.frozen? ⟨rb_, 3, none⟩ = false := HR6.out.free _ rfl
      have rz3' : w6.drew.frozen? ⟨rb_, 3, none⟩ = false := HR7.out.free _ rfl
      simp only [List.getElem?_cons_zero, List.getElem?_cons_succ] at q0 q1 q2 q3 q0' q1' q2' q3' r0 r1 r2 r3 r0' r1' r2' r3'
      go_region
      go_wp2
      have hfin : Fr w6 _ (fun k => k = rb_) := (((((Fr.refl w6 (fun k => k = rb_)).setCell ⟨rb_, 0, none⟩ (.bool x0) (fun _ => rfl)).setCell ⟨rb_, 1, none⟩ (.int .i64 x1) (fun _ => rfl)).setCell ⟨rb_, 2, none⟩ (.int .i64 x2) (fun _ => rfl)).setCell ⟨rb_, 3, none⟩ (.slice none 0 0) (fun _ => rfl)).drew
      have hblk : Blk _ rb_ TRT [.bool x0, .int .i64 x1, .int .i64 x2, .slice none 0 0] := ((((HR6.out.set 0 (.bool x0)).set 1 (.int .i64 x1)).set 2 (.int .i64 x2)).set 3 (.slice none 0 0)).drew
      refine bodyPost_ret (results_tc rfl _ _ rb_ TRT _ (0, 0) _ rfl hblk Try.underlying39 rfl rtsize) rfl ?_
      exact HQ'.out _ _ ⟨_, _, _, _, rfl, HB6.out.trans (hfin.below (by exact HB6.out.size) (fun k hk => by have := HRB.out; omega))⟩
set_option maxHeartbeats 4000000 in
set_option maxRecDepth 100000 in
theorem step06_8 (w : World) (A : Option Addr) (c : Nat) (l : List (Int × Int)) (key val hi : Int) (hl : l.length ≤ 1000000) (h : PRd w A l) (hc : l.length ≤ c) :
    Calls Try.prog 9 #[.slice A l.length c, .agg #[.int .i64 8, .int .i64 key, .int .i64 val, .int .i64 hi]] w fun e w' => ∃ nv x0 x1 x2, e = .returned (.tuple #[nv, .agg #[.bool x0, .int .i64 x1, .int .i64 x2, .slice none 0 0]]) ∧ Below w.heap.size w w' := by
  refine calls_hide fun Q HQ => ?_
  have HQ' := Lib.hid HQ
  have ha := (Below.refl w.heap.size w).alloc (Nat.le_refl _) (.cells #[.int .i64 8, .int .i64 key, .int .i64 val, .int .i64 hi] TOP)
  have hb := ha.alloc ha.size (.cells #[.bool false, .int .i64 0, .int .i64 0, .slice none 0 0] TRT)
  have hlk := ref06_look ((w.alloc (.cells #[.int .i64 8, .int .i64 key, .int .i64 val, .int .i64 hi] TOP)).alloc (.cells #[.bool false, .int .i64 0, .int .i64 0, .slice none 0 0] TRT)) A c l key (by omega) (h.below hb) hc
  rw [List.length_map] at hlk
  have HLK := Lib.hid hlk
  have HP := Lib.hid h
  have HB2 := Lib.hid hb
  have ho0 := (Blk.new w TOP [.int .i64 8, .int .i64 key, .int .i64 val, .int .i64 hi]).alloc (.cells #[.bool false, .int .i64 0, .int .i64 0, .slice none 0 0] TRT)
  have hr0 := Blk.new (w.alloc (.cells #[.int .i64 8, .int .i64 key, .int .i64 val, .int .i64 hi] TOP)) TRT [.bool false, .int .i64 0, .int .i64 0, .slice none 0 0]
  rw [World.size_alloc] at hr0
  have HO0 := Lib.hid ho0
  have HR0 := Lib.hid hr0
  have o1 := HO0.out.cell 1
  simp only [List.getElem?_cons_zero, List.getElem?_cons_succ] at o1
  clear HQ h ha hb hlk ho0 hr0
  go_enter Try.func9, Try.ntmps9
  go_wp2_with fail
  clear o1
  generalize (w.alloc (.cells #[.int .i64 8, .int .i64 key, .int .i64 val, .int .i64 hi] 37)).alloc (.cells #[.bool false, .int .i64 0, .int .i64 0, .slice none 0 0] 39) = w0 at *
  refine HLK.out.mono ?_
  rintro e w1 ⟨rfl, hb⟩
  have HB1 := Lib.hid (HB2.out.trans (hb.mono HB2.out.size))
  have HO1 := Lib.hid (HO0.out.below hb HO0.out.lt)
  have HR1 := Lib.hid (HR0.out.below hb HR0.out.lt)
  have hbz := (Below.refl w1.heap.size w1).alloc (Nat.le_refl _) (.cells #[.bool false, .int .i64 0, .int .i64 0, .slice none 0 0] TRT)
  have HQ2 := Lib.hid (Blk.new w1 TRT [.bool false, .int .i64 0, .int .i64 0, .slice none 0 0])
  have HO2 := Lib.hid (HO1.out.below hbz HO1.out.lt)
  have HR2 := Lib.hid (HR1.out.below hbz HR1.out.lt)
  have HB3 := Lib.hid (HB1.out.alloc HB1.out.size (.cells #[.bool false, .int .i64 0, .int .i64 0, .slice none 0 0] TRT))
  have HZ := Lib.hid (And.intro HB1.out.size HR1.out.lt)
  clear hb hbz HLK HB2 HO0 HR0
  generalize (lookL l key).2 = ok_ at *
  generalize (lookL l key).1 = v_ at *
  have o0 := HO2.out.cell 0
  have o1 := HO2.out.cell 1
  have o3 := HO2.out.cell 3
  have a0 := HQ2.out.cell 0
  have az0 : (w1.alloc (.cells #[.bool false, .int .i64 0, .int .i64 0, .slice none 0 0] TRT)).frozen? ⟨w1.heap.size, 0, none⟩ = false := HQ2.out.free _ rfl
  have a1 := HQ2.out.cell 1
  have az1 : (w1.alloc (.cells #[.bool false, .int .i64 0, .int .i64 0, .slice none 0 0] TRT)).frozen? ⟨w1.heap.size, 1, none⟩ = false := HQ2.out.free _ rfl
  have a2 := HQ2.out.cell 2
  have az2 : (w1.alloc (.cells #[.bool false, .int .i64 0, .int .i64 0, .slice none 0 0] TRT)).frozen? ⟨w1.heap.size, 2, none⟩ = false := HQ2.out.free _ rfl
  have a3 := HQ2.out.cell 3
  have az3 : (w1.alloc (.cells #[.bool false, .int .i64 0, .int .i64 0, .slice none 0 0] TRT)).frozen? ⟨w1.heap.size, 3, none⟩ = false := HQ2.out.free _ rfl
  simp only [List.getElem?_cons_zero, List.getElem?_cons_succ] at o0 o1 o3 a0 a1 a2 a3
  go_wp2_with fail
  have hbq := (Below.refl w1.heap.size w1).alloc (Nat.le_refl _) (.cells #[.bool false, .int .i64 0, .int .i64 0, .slice none 0 0] TRT)
  have HBQ := Lib.hid hbq
  clear hbq o0 o1 o3 a0 a1 a2 a3 az0 az1 az2 az3 HO2 HR2 HB3
  generalize w1.alloc (.cells #[.bool false, .int .i64 0, .int .i64 0, .slice none 0 0] 39) = w2 at *
  generalize hrb : w.heap.size + 1 = rb_ at *
  have HRB := Lib.hid hrb
  clear hrb
  generalize hqb : w1.heap.size = qb_ at *
  have HQB := Lib.hid hqb
  clear hqb
  go_loopw [9] (fun k wr => ∃ j : Nat, j ≤ l.length ∧ k = .int .i64 j ∧ ∃ (x0 : Bool) (x1 x2 : Int), Blk wr qb_ TRT [.bool x0, .int .i64 x1, .int .i64 x2, .slice none 0 0] ∧ Below qb_ w1 wr) (fun k _ => l.length - (intOf k).toNat)
  case atStart => exact ⟨0, Nat.zero_le _, rfl, false, 0, 0, HQ2.out, HBQ.out⟩
  case round =>
    obtain ⟨j, hj, rfl, x0, x1, x2, hqx, hbel⟩ := hrel
    have HQX := Lib.hid hqx
    clear hqx
    have HBL := Lib.hid hbel
    clear hbel
    by_cases hlt : j < l.length
    · have HBX : Hid (Below w1.heap.size w1 wr) := by rw [HQB.out]; exact HBL
      obtain ⟨ad, hA, c0, c1⟩ := pair_at ((HP.out.below HB1.out).below HBX.out) (i := j) (by simpa using hlt)
      subst hA
      have HOX := Lib.hid (HO1.out.below HBX.out HO1.out.lt)
      have HQL := Lib.hid HQX.out.lt
      generalize (pr ((l.map sp)[j]'(by simpa using hlt))) = p at *
      obtain ⟨pk, pw⟩ := p
      simp only at c0 c1
      go_wp2_with fail
      have hz0 := (Below.refl wr.heap.size wr).alloc (Nat.le_refl _) (.cells #[.bool false, .int .i64 0, .int .i64 0, .slice none 0 0] TRT)
      have c0' := pw_cell_below hz0 c0
      have c1' := pw_cell_below hz0 c1
      have HZ1 := Blk.new wr TRT [.bool false, .int .i64 0, .int .i64 0, .slice none 0 0]
      have d0 := HZ1.cell 0
      have dz0 : (wr.alloc (.cells #[.bool false, .int .i64 0, .int .i64 0, .slice none 0 0] TRT)).frozen? ⟨wr.heap.size, 0, none⟩ = false := HZ1.free _ rfl
      have d1 := HZ1.cell 1
      have dz1 : (wr.alloc (.cells #[.bool false, .int .i64 0, .int .i64 0, .slice none 0 0] TRT)).frozen? ⟨wr.heap.size, 1, none⟩ = false := HZ1.free _ rfl
      have d2 := HZ1.cell 2
      have dz2 : (wr.alloc (.cells #[.bool false, .int .i64 0, .int .i64 0, .slice none 0 0] TRT)).frozen? ⟨wr.heap.size, 2, none⟩ = false := HZ1.free _ rfl
      have d3 := HZ1.cell 3
      have dz3 : (wr.alloc (.cells #[.bool false, .int .i64 0, .int .i64 0, .slice none 0 0] TRT)).frozen? ⟨wr.heap.size, 3, none⟩ = false := HZ1.free _ rfl
      simp only [List.getElem?_cons_zero, List.getElem?_cons_succ] at d0 d1 d2 d3
      clear hz0 HZ1
      go_region
      have hz5 := ((Below.refl wr.heap.size wr).alloc (Nat.le_refl _) (.cells #[.bool true, .int .i64 pk, .int .i64 pw, .slice none 0 0] TRT)).drew
      have HT5 := Lib.hid ((Blk.new wr TRT [.bool true, .int .i64 pk, .int .i64 pw, .slice none 0 0]).drew)
      have HB5 := Lib.hid (HBL.out.trans (hz5.mono (by have := HQL.out; omega)))
      have HQ5 := Lib.hid (HQX.out.below hz5 HQL.out)
      have HO5 := Lib.hid (HOX.out.below hz5 HOX.out.lt)
      have k5 := pw_cell_below hz5 c0
      clear hz5 c0 c1 c0' c1' d0 d1 d2 d3 dz0 dz1 dz2 dz3 HBL HQX HOX
      generalize (wr.alloc (.cells #[.bool true, .int .i64 pk, .int .i64 pw, .slice none 0 0] 39)).drew = w5 at *
      have HTL := Lib.hid (show qb_ < wr.heap.size from HQL.out)
      generalize wr.heap.size = tb at *
      have o0 := HO5.out.cell 0
      have o1 := HO5.out.cell 1
      have a0 := HQ5.out.cell 0
      simp only [List.getElem?_cons_zero, List.getElem?_cons_succ] at o0 o1 a0
      go_wp2_with fail
      go_quiet (fail)
      have hdn := pw_below_drewN (Below.refl w5.heap.size w5) nq
      have HT6 := Lib.hid (HT5.out.below hdn HT5.out.lt)
      have HQ6 := Lib.hid (HQ5.out.below hdn HQ5.out.lt)
      have HB6 := Lib.hid (HB5.out.trans (hdn.mono (Nat.le_of_lt HQ5.out.lt)))
      clear hdn o0 o1 a0 k5 HT5 HQ5 HB5 HO5
      generalize w5.drewN nq = w6 at *
      have a0 := HQ6.out.cell 0
      have az0 : w6.frozen? ⟨qb_, 0, none⟩ = false := HQ6.out.free _ rfl
      have e0 := HT6.out.cell 0
      have a1 := HQ6.out.cell 1
      have az1 : w6.frozen? ⟨qb_, 1, none⟩ = false := HQ6.out.free _ rfl
      have e1 := HT6.out.cell 1
      have a2 := HQ6.out.cell 2
      have az2 : w6.frozen? ⟨qb_, 2, none⟩ = false := HQ6.out.free _ rfl
      have e2 := HT6.out.cell 2
      have a3 := HQ6.out.cell 3
      have az3 : w6.frozen? ⟨qb_, 3, none⟩ = false := HQ6.out.free _ rfl
      have e3 := HT6.out.cell 3
      simp only [List.getElem?_cons_zero, List.getElem?_cons_succ] at a0 a1 a2 a3 e0 e1 e2 e3
      have hq3 : Blk _ qb_ TRT [.bool true, .int .i64 pk, .int .i64 pw, .slice none 0 0] := (((HQ6.out.set 0 (.bool true)).set 1 (.int .i64 pk)).set 2 (.int .i64 pw)).set 3 (.slice none 0 0)
      have hfq : Fr w6 _ (fun k => k = qb_) := ((((Fr.refl w6 (fun k => k = qb_)).setCell ⟨qb_, 0, none⟩ (.bool true) (fun _ => rfl)).setCell ⟨qb_, 1, none⟩ (.int .i64 pk) (fun _ => rfl)).setCell ⟨qb_, 2, none⟩ (.int .i64 pw) (fun _ => rfl)).setCell ⟨qb_, 3, none⟩ (.slice none 0 0) (fun _ => rfl)
      have HFIN := Lib.hid (And.intro hq3 (HB6.out.trans (hfq.below (Nat.le_of_lt HQ6.out.lt) (fun k hk => by rw [hk]; exact Nat.le_refl _))))
      clear hq3 hfq
      go_wp2
      go_roundw
      case rel => exact ⟨j + 1, by omega, by go_num, true, pk, pw, HFIN.out.1, HFIN.out.2⟩
      case measure => simp [intOf]; omega
    · have hje : j = l.length := by omega
      subst hje
      have HBX : Hid (Below w1.heap.size w1 wr) := by rw [HQB.out]; exact HBL
      have hcl := ((HP.out.below HB1.out).below HBX.out).cells
      have o0 := (HO1.out.below HBX.out HO1.out.lt).cell 0
      simp only [List.getElem?_cons_zero] at o0
      have HBW := Lib.hid (HB1.out.trans (HBX.out.mono HB1.out.size))
      have HCL := Lib.hid (fun (o : Obj) => And.intro hcl.1 (fun hn : 0 < l.length => by
        obtain ⟨ad, e, hc9⟩ := hcl.2 hn
        exact (⟨ad, e, fun j u hu => pw_cell_below ((Below.refl wr.heap.size wr).alloc (Nat.le_refl _) o) (hc9 j u hu)⟩ : ∃ ad, A = some ad ∧ ∀ j u, (l.flatMap pcells)[j]? = some u → (wr.alloc o).cell? (ad.add j) = some u)))
      clear hcl
      go_wp2_with (at_builtin; refine print_append_spread (W := wr) rfl _ _ TPAs TPA (.agg #[.int .i64 0, .int .i64 0]) 2 16 (by decide) rfl Try.underlying22 pinfo_pair rfl (A := A) (n := l.length) (c := c) (us := l.flatMap pcells) rfl rfl (HCL.out _) (one_pairs l) (by simp only [maxLen]; omega) (by omega) ?_)
      intro v6 w6 ho6 hb6
      have HPW := Lib.hid (PRow.of_own (Go.Proofs.YteeficpjggimcaaW.PrintWords.own_weaken ho6 HBW.out.size))
      have HB6 := Lib.hid (HBW.out.trans (hb6.mono HBW.out.size))
      have hb26 := hb6
      have HQ6 := Lib.hid (HQX.out.below hb26 HQX.out.lt)
      have HR6 := Lib.hid ((HR1.out.below HBX.out HR1.out.lt).below hb26 (Nat.lt_of_lt_of_le HR1.out.lt HBX.out.size))
      have HO6 := Lib.hid ((HO1.out.below HBX.out HO1.out.lt).below hb26 (Nat.lt_of_lt_of_le HO1.out.lt HBX.out.size))
      have HP6 := Lib.hid (HP.out.below HB6.out)
      have o1 := HO6.out.cell 0
      have o2 := HO6.out.cell 1
      have o3 := HO6.out.cell 2
      simp only [List.getElem?_cons_zero, List.getElem?_cons_succ] at o1 o2 o3
      clear ho6 hb6 hb26 o0 HBW HBL HCL
      have hne : qb_ ≠ rb_ := by have := HRB.out; have := HQB.out; have := HZ.out.1; have := HZ.out.2; omega
      have hne2 := hne.symm
      go_wp2_with fail
      have hdr := (Below.refl w6.heap.size w6).drew
      have HQ7 := Lib.hid (HQ6.out.below hdr HQ6.out.lt)
      have HR7 := Lib.hid (HR6.out.below hdr HR6.out.lt)
      clear hdr
      have q0 := HQ6.out.cell 0
      have q0' := HQ7.out.cell 0
      have r0 := HR6.out.cell 0
      have r0' := HR7.out.cell 0
      have rz0 : w6.frozen? ⟨rb_, 0, none⟩ = false := HR6.out.free _ rfl
      have rz0' : w6.drew.frozen? ⟨rb_, 0, none⟩ = false := HR7.out.free _ rfl
      have q1 := HQ6.out.cell 1
      have q1' := HQ7.out.cell 1
      have r1 := HR6.out.cell 1
      have r1' := HR7.out.cell 1
      have rz1 : w6.frozen? ⟨rb_, 1, none⟩ = false := HR6.out.free _ rfl
      have rz1' : w6.drew.frozen? ⟨rb_, 1, none⟩ = false := HR7.out.free _ rfl
      have q2 := HQ6.out.cell 2
      have q2' := HQ7.out.cell 2
      have r2 := HR6.out.cell 2
      have r2' := HR7.out.cell 2
      have rz2 : w6.frozen? ⟨rb_, 2, none⟩ = false := HR6.out.free _ rfl
      have rz2' : w6.drew.frozen? ⟨rb_, 2, none⟩ = false := HR7.out.free _ rfl
      have q3 := HQ6.out.cell 3
      have q3' := HQ7.out.cell 3
      have r3 := HR6.out.cell 3
      have r3' := HR7.out.cell 3
      have rz3 : w6.frozen? ⟨rb_, 3, none⟩ = false := HR6.out.free _ rfl
      have rz3' : w6.drew.frozen? ⟨rb_, 3, none⟩ = false := HR7.out.free _ rfl
      simp only [List.getElem?_cons_zero, List.getElem?_cons_succ] at q0 q1 q2 q3 q0' q1' q2' q3' r0 r1 r2 r3 r0' r1' r2' r3'
      go_region
      go_wp2
      have hfin : Fr w6 _ (fun k => k = rb_) := (((((Fr.refl w6 (fun k => k = rb_)).setCell ⟨rb_, 0, none⟩ (.bool x0) (fun _ => rfl)).setCell ⟨rb_, 1, none⟩ (.int .i64 x1) (fun _ => rfl)).setCell ⟨rb_, 2, none⟩ (.int .i64 x2) (fun _ => rfl)).setCell ⟨rb_, 3, none⟩ (.slice none 0 0) (fun _ => rfl)).drew
      have hblk : Blk _ rb_ TRT [.bool x0, .int .i64 x1, .int .i64 x2, .slice none 0 0] := ((((HR6.out.set 0 (.bool x0)).set 1 (.int .i64 x1)).set 2 (.int .i64 x2)).set 3 (.slice none 0 0)).drew
      refine bodyPost_ret (results_tc rfl _ _ rb_ TRT _ (0, 0) _ rfl hblk Try.underlying39 rfl rtsize) rfl ?_
      exact HQ'.out _ _ ⟨_, _, _, _, rfl, HB6.out.trans (hfin.below (by exact HB6.out.size) (fun k hk => by have := HRB.out; omega))⟩
end Go.Proofs.Yteeficpjggimcaa
