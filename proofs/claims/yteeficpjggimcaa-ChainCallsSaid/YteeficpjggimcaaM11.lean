/- Joined texts: ChainAE ChainAF ChainAG Case15 ChainAD Loop15 Step15 ChainAH. -/
import Derived.Test.YteeficpjggimcaaM9
import Derived.Test.YteeficpjggimcaaM10
import Derived.Test.YteeficpjggimcaaRows
import Derived.WalkKit
import Derived.ProofKit
import Derived.OpenShut
import Derived.ShutString
import Derived.ChangeOld
import Derived.Below
import Derived.SizedLaws
import Derived.Deep.Slices
import Derived.Deep.Grids

/- chain: Do of no kind. -/
namespace Go.Proofs.Yteeficpjggimcaa
open Go.RowKit Go.Proofs.YteeficpjggimcaaW.PrintWords Go.Proofs.YteeficpjggimcaaW.PrintLast Go.Proofs.Yteeficpjggimcaa.PChainCalls
set_option linter.unusedVariables false
set_option linter.unusedSimpArgs false

set_option maxHeartbeats 4000000 in
set_option maxRecDepth 100000 in
theorem chain_do_bad (w : World) (c : Nat) (kd key val hi : Int) (hk1 : (kd == 1) = false) (hk2 : (kd == 2) = false) (hk3 : (kd == 3) = false) (hk4 : (kd == 4) = false) (hk9 : (kd == 9) = false) :
    Calls Try.prog 15 #[.pointer (some ⟨c, 0, none⟩), .nilIface, .agg #[.int .i64 kd, .int .i64 key, .int .i64 val, .int .i64 hi]] w fun e w' => e = .returned (.tuple #[.agg #[.bool false, .int .i64 0, .int .i64 0, .slice none 0 0], .int .i64 5]) ∧ Below w.heap.size w w' := by
  refine calls_hide fun Q HQ => ?_
  have HQ' := Lib.hid HQ
  have ha := (Below.refl w.heap.size w).alloc (Nat.le_refl _) (.cells #[.int .i64 kd, .int .i64 key, .int .i64 val, .int .i64 hi] TOP)
  have hb := ha.alloc ha.size (.cells #[.bool false, .int .i64 0, .int .i64 0, .slice none 0 0] TRT)
  have hb3 := hb.alloc hb.size (.cells #[.bool false, .int .i64 0, .int .i64 0, .slice none 0 0] TRT)
  have hr0 := (Blk.new (w.alloc (.cells #[.int .i64 kd, .int .i64 key, .int .i64 val, .int .i64 hi] TOP)) TRT [.bool false, .int .i64 0, .int .i64 0, .slice none 0 0]).alloc (.cells #[.bool false, .int .i64 0, .int .i64 0, .slice none 0 0] TRT)
  have ho0 := ((Blk.new w TOP [.int .i64 kd, .int .i64 key, .int .i64 val, .int .i64 hi]).alloc (.cells #[.bool false, .int .i64 0, .int .i64 0, .slice none 0 0] TRT)).alloc (.cells #[.bool false, .int .i64 0, .int .i64 0, .slice none 0 0] TRT)
  rw [World.size_alloc] at hr0
  have HR0 := Lib.hid hr0
  have HB := Lib.hid hb3
  have o0 := ho0.cell 0
  have b0 := hr0.cell 0
  have b1 := hr0.cell 1
  have b2 := hr0.cell 2
  have b3 := hr0.cell 3
  have z0 := hr0.free ⟨w.heap.size + 1, 0, none⟩ rfl
  have z1 := hr0.free ⟨w.heap.size + 1, 1, none⟩ rfl
  have z2 := hr0.free ⟨w.heap.size + 1, 2, none⟩ rfl
  have z3 := hr0.free ⟨w.heap.size + 1, 3, none⟩ rfl
  simp only [List.getElem?_cons_zero, List.getElem?_cons_succ] at o0 b0 b1 b2 b3
  clear HQ ha hb hb3 hr0 ho0
  go_enter Try.func15, Try.ntmps15
  go_wp2
  clear o0 b0 b1 b2 b3 z0 z1 z2 z3 hk1 hk2 hk3 hk4 hk9
  generalize ((w.alloc (.cells #[.int .i64 kd, .int .i64 key, .int .i64 val, .int .i64 hi] 37)).alloc (.cells #[.bool false, .int .i64 0, .int .i64 0, .slice none 0 0] 39)).alloc (.cells #[.bool false, .int .i64 0, .int .i64 0, .slice none 0 0] 39) = w0 at *
  generalize hrb : w.heap.size + 1 = rb_ at *
  refine bodyPost_ret (results_ct rfl _ _ rb_ TRT _ (0, 0) _ rfl HR0.out Try.underlying39 rfl rtsize) rfl ?_
  exact HQ'.out _ _ ⟨rfl, HB.out⟩
end Go.Proofs.Yteeficpjggimcaa

/- larchlaw15: less. -/
namespace Go.Proofs.Yteeficpjggimcaa
open Go.RowKit Go.Proofs.YteeficpjggimcaaW.PrintWords Go.Proofs.YteeficpjggimcaaW.PrintLast Go.Proofs.Yteeficpjggimcaa.PChainCalls
set_option linter.unusedVariables false
set_option linter.unusedSimpArgs false

abbrev TCA15 : Nat := 26
abbrev TOPs : Nat := 35
theorem pinfo_ops : (Try.prog.info? TOPs).map (fun i => (i.zero, i.size, i.bytes)) = some (some (.slice none 0 0), 1, 24) := by kernel_rfl
theorem casize15 : (Try.prog.info? TCA15).map (·.size) = some 3 := by kernel_rfl
/-- A slice. -/
structure SlV where
  A : Option Addr
  n : Nat
  c : Nat
def SlV.val (x : SlV) : Value := .slice x.A x.n x.c
def SlV.cut (x : SlV) : SlV := if x.n ≤ 1000 then ⟨x.A, min x.n 12, x.c⟩ else x
set_option maxHeartbeats 4000000 in
set_option maxRecDepth 100000 in
theorem law15_less (w : World) (Ap : Option Addr) (np cp : Nat) (As : Option Addr) (cs : Nat) (S : List SlV) (Ak : Option Addr) (nk ck : Nat) (hp : np ≤ cp) (hk : nk ≤ ck) (hS : Row1 w As S.length (S.map SlV.val)) (hsc : ∀ x ∈ S, x.n ≤ x.c) (b1 : np ≤ 1000000000000000) (b2 : nk ≤ 1000000000000000) (b3 : S.length ≤ 1000000000000000) (b4 : ∀ x ∈ S, x.n ≤ 1000000000000000) :
    Calls Try.prog 5 #[.agg #[.slice Ap np cp, .slice As S.length cs, .slice Ak nk ck]] w fun e w' => ∃ v, e = .returned (.agg #[.slice Ap (min np 1100) cp, v, .slice Ak (min nk 700) ck]) ∧ w'.ownsRow w.heap.size TOPs 1 v (S.take 70).length (((S.take 70).map SlV.cut).map SlV.val) ∧ Below w.heap.size w w' := by
  refine calls_hide fun Q HQ => ?_
  have HQ' := Lib.hid HQ
  have HS := Lib.hid (And.intro hS (And.intro hsc b4))
  have ha := (Below.refl w.heap.size w).alloc (Nat.le_refl _) (.cells #[.slice Ap np cp, .slice As S.length cs, .slice Ak nk ck] TCA15)
  have hb := ha.alloc ha.size (.cells #[.slice none 0 0, .slice none 0 0, .slice none 0 0] TCA15)
  have hx0 := (Blk.new w TCA15 [.slice Ap np cp, .slice As S.length cs, .slice Ak nk ck]).alloc (.cells #[.slice none 0 0, .slice none 0 0, .slice none 0 0] TCA15)
  have hr0 := Blk.new (w.alloc (.cells #[.slice Ap np cp, .slice As S.length cs, .slice Ak nk ck] TCA15)) TCA15 [.slice none 0 0, .slice none 0 0, .slice none 0 0]
  rw [World.size_alloc] at hr0
  have HX0 := Lib.hid hx0
  have HR0 := Lib.hid hr0
  have HB0 := Lib.hid hb
  clear HQ hS hsc ha hb hx0 hr0 b4
  go_enter Try.func5, Try.ntmps5
  go_wp2_with fail
  generalize (w.alloc (.cells #[.slice Ap np cp, .slice As S.length cs, .slice Ak nk ck] 26)).alloc (.cells #[.slice none 0 0, .slice none 0 0, .slice none 0 0] 26) = w0 at *
  generalize hxb : w.heap.size = xb at *
  have HXB := Lib.hid hxb
  clear hxb
  have c0 := HX0.out.cell 0
  have c1 := HX0.out.cell 1
  have c2 := HX0.out.cell 2
  have z0 : w0.frozen? ⟨xb, 0, none⟩ = false := HX0.out.free _ rfl
  have z2 : w0.frozen? ⟨xb, 2, none⟩ = false := HX0.out.free _ rfl
  have c0' : w0.drew.cell? ⟨xb, 0, none⟩ = _ := HX0.out.cell 0
  have c1' : w0.drew.cell? ⟨xb, 1, none⟩ = _ := HX0.out.cell 1
  have c2' : w0.drew.cell? ⟨xb, 2, none⟩ = _ := HX0.out.cell 2
  have z0' : w0.drew.frozen? ⟨xb, 0, none⟩ = false := HX0.out.free _ rfl
  have z2' : w0.drew.frozen? ⟨xb, 2, none⟩ = false := HX0.out.free _ rfl
  simp only [List.getElem?_cons_zero, List.getElem?_cons_succ] at c0 c1 c2 c0' c1' c2'
  go_region
  have e1 : (if (1100 : Int) < (np : Int) then (1100 : Int) else (np : Int)).toNat = min np 1100 := by split <;> omega
  have e2 : (if (700 : Int) < (nk : Int) then (700 : Int) else (nk : Int)).toNat = min nk 700 := by split <;> omega
  rw [e1, e2]
  clear e1 e2 c0 c1 c2 z0 z2 c0' c1' c2' z0' z2'
  generalize (if (1100 : Int) < (np : Int) then (1100 : Int) else (np : Int)) = g1 at *
  generalize (if (700 : Int) < (nk : Int) then (700 : Int) else (nk : Int)) = g2 at *
  generalize min np 1100 = np' at *
  generalize min nk 700 = nk' at *
  have hx1 : Blk _ xb TCA15 [.slice Ap np' cp, .slice As S.length cs, .slice Ak nk' ck] := ((HX0.out.set 0 (.slice Ap np' cp)).set 2 (.slice Ak nk' ck)).drew
  have hfr : Fr w0 _ (fun k => k = xb) := (((Fr.refl w0 (fun k => k = xb)).setCell ⟨xb, 0, none⟩ (.slice Ap np' cp) (fun _ => rfl)).setCell ⟨xb, 2, none⟩ (.slice Ak nk' ck) (fun _ => rfl)).drew
  have HX1 := Lib.hid hx1
  have HR1 := Lib.hid (hfr.blk HR0.out (fun e => by omega))
  have HB1 := Lib.hid (HB0.out.trans (hfr.below (by have := HB0.out.size; have := HXB.out; omega) (fun k hk => by rw [hk]; exact Nat.le_refl _)))
  clear hx1 hfr HX0 HR0 HB0
  generalize ((w0.setCell ⟨xb, 0, none⟩ (.slice Ap np' cp)).setCell ⟨xb, 2, none⟩ (.slice Ak nk' ck)).drew = w1 at *
  go_wp2
  go_loopw [3, 4] (fun v k wr => ∃ j : Nat, j ≤ S.length ∧ j ≤ 70 ∧ k = .int .i64 j ∧ Below w1.heap.size w1 wr ∧ wr.ownsRow w1.heap.size TOPs 1 v j (((S.take j).map SlV.cut).map SlV.val)) (fun _ k _ => S.length - (intOf k).toNat)
  case atStart => exact ⟨0, Nat.zero_le _, by omega, rfl, Below.refl _ _, World.ownsRow_nil _ _ _ _⟩
  case round =>
    obtain ⟨j, hj, hj7, rfl, hbel, hown⟩ := hrel
    have HBL := Lib.hid hbel
    have HO := Lib.hid hown
    have HX2 := Lib.hid (HX1.out.below hbel HX1.out.lt)
    clear hbel hown
    have c1 := HX2.out.cell 1
    simp only [List.getElem?_cons_zero, List.getElem?_cons_succ] at c1
    by_cases hlt : j < S.length
    · by_cases h70 : j < 70
      · have hx0 : (S.map SlV.val)[j]? = some S[j].val := by simp [List.getElem?_eq_getElem hlt]
        obtain ⟨ad, hA, hcell⟩ := HS.out.1.at_ hx0
        have hc := pw_cell_below HBL.out (pw_cell_below (show Below w.heap.size w w1 by rw [HXB.out]; exact HB1.out) hcell)
        have hle := HS.out.2.1 S[j] (List.getElem_mem hlt)
        have hle2 := HS.out.2.2 S[j] (List.getElem_mem hlt)
        have HT := Lib.hid (show ((S.take (j + 1)).map SlV.cut).map SlV.val = ((S.take j).map SlV.cut).map SlV.val ++ [S[j].cut.val] from by rw [← take_next S j hlt, List.map_append, List.map_append]; rfl)
        generalize S[j] = x at *
        obtain ⟨xA, xn, xc⟩ := x
        simp only [SlV.val] at hc hle hle2
        subst hA
        clear hx0 hcell
        by_cases h12 : 12 < xn
        · by_cases h1000 : xn ≤ 1000
          · have HV := Lib.hid (show SlV.val (SlV.cut ⟨xA, xn, xc⟩) = .slice xA 12 xc from by
              have : min xn 12 = 12 := by omega
              simp [SlV.cut, SlV.val, h1000, this])
            go_wp2_with (at_builtin; refine print_append_cells (w0 := w1) w1.heap.size rfl _ _ 23 TOPs (.slice none 0 0) 1 24 rfl Try.underlying23 pinfo_ops rfl (by decide) (by decide) u3 j _ [.slice xA 12 xc] rfl rfl rfl (by simp [Value.oneCell']) HO.out HBL.out HBL.out.size (by omega) ?_)
            intro a1 w6 hown1 hb1 hg1 hat1
            have HO6 := Lib.hid (show w6.ownsRow w1.heap.size TOPs 1 a1 (j + 1) (((S.take (j + 1)).map SlV.cut).map SlV.val) from by
              rw [HT.out, HV.out]
              first | exact hown1 | simpa [List.map_take, Function.comp_def] using hown1)
            have HB6 := Lib.hid hb1
            clear hown1 hb1 hg1 hat1 HT HV HO HBL hc c1 hle hle2
            go_wp2
            go_roundw
            case rel => exact ⟨j + 1, by omega, by omega, by go_num, HB6.out, HO6.out⟩
            case measure => simp [intOf]; omega
          · have HV := Lib.hid (show SlV.val (SlV.cut ⟨xA, xn, xc⟩) = .slice xA xn xc from by simp [SlV.cut, SlV.val, h1000])
            go_wp2_with (at_builtin; refine print_append_cells (w0 := w1) w1.heap.size rfl _ _ 23 TOPs (.slice none 0 0) 1 24 rfl Try.underlying23 pinfo_ops rfl (by decide) (by decide) u3 j _ [.slice xA xn xc] rfl rfl rfl (by simp [Value.oneCell']) HO.out HBL.out HBL.out.size (by omega) ?_)
            intro a1 w6 hown1 hb1 hg1 hat1
            have HO6 := Lib.hid (show w6.ownsRow w1.heap.size TOPs 1 a1 (j + 1) (((S.take (j + 1)).map SlV.cut).map SlV.val) from by
              rw [HT.out, HV.out]
              first | exact hown1 | simpa [List.map_take, Function.comp_def] using hown1)
            have HB6 := Lib.hid hb1
            clear hown1 hb1 hg1 hat1 HT HV HO HBL hc c1 hle hle2
            go_wp2
            go_roundw
            case rel => exact ⟨j + 1, by omega, by omega, by go_num, HB6.out, HO6.out⟩
            case measure => simp [intOf]; omega
        · have HV := Lib.hid (show SlV.val (SlV.cut ⟨xA, xn, xc⟩) = .slice xA xn xc from by
            have : min xn 12 = xn := by omega
            have h2 : xn ≤ 1000 := by omega
            simp [SlV.cut, SlV.val, h2, this])
          go_wp2_with (at_builtin; refine print_append_cells (w0 := w1) w1.heap.size rfl _ _ 23 TOPs (.slice none 0 0) 1 24 rfl Try.underlying23 pinfo_ops rfl (by decide) (by decide) u3 j _ [.slice xA xn xc] rfl rfl rfl (by simp [Value.oneCell']) HO.out HBL.out HBL.out.size (by omega) ?_)
          intro a1 w6 hown1 hb1 hg1 hat1
          have HO6 := Lib.hid (show w6.ownsRow w1.heap.size TOPs 1 a1 (j + 1) (((S.take (j + 1)).map SlV.cut).map SlV.val) from by
            rw [HT.out, HV.out]
            first | exact hown1 | simpa [List.map_take, Function.comp_def] using hown1)
          have HB6 := Lib.hid hb1
          clear hown1 hb1 hg1 hat1 HT HV HO HBL hc c1 hle hle2
          go_wp2
          go_roundw
          case rel => exact ⟨j + 1, by omega, by omega, by go_num, HB6.out, HO6.out⟩
          case measure => simp [intOf]; omega
      · have hj9 : j = 70 := by omega
        subst hj9
        have HTK := Lib.hid (show (S.take 70).length = 70 from by simp; omega)
        have z1 : wr.frozen? ⟨xb, 1, none⟩ = false := HX2.out.free _ rfl
        obtain ⟨A9, c9, e9, _, _⟩ := owns_slice HO.out
        subst e9
        have HR2 := Lib.hid (HR1.out.below HBL.out HR1.out.lt)
        have hf1 : Fr wr (wr.setCell ⟨xb, 1, none⟩ (.slice A9 70 c9)) (fun k => k = xb ∨ k = xb + 1) := (Fr.refl wr _).setCell _ _ (fun _ => .inl rfl)
        have hx3 : Blk (wr.setCell ⟨xb, 1, none⟩ (.slice A9 70 c9)) xb TCA15 [.slice Ap np' cp, .slice A9 70 c9, .slice Ak nk' ck] := HX2.out.set 1 (.slice A9 70 c9)
        have hr3 : Blk (wr.setCell ⟨xb, 1, none⟩ (.slice A9 70 c9)) (xb + 1) TCA15 [.slice none 0 0, .slice none 0 0, .slice none 0 0] := HR2.out.other _ _ (by simp)
        have HF1 := Lib.hid hf1
        have HR3 := Lib.hid hr3
        have x0 := hx3.cell 0
        have x1 := hx3.cell 1
        have x2 := hx3.cell 2
        have r0 := hr3.cell 0
        have r1 := hr3.cell 1
        have r2 := hr3.cell 2
        have rz0 := hr3.free ⟨xb + 1, 0, none⟩ rfl
        have rz1 := hr3.free ⟨xb + 1, 1, none⟩ rfl
        have rz2 := hr3.free ⟨xb + 1, 2, none⟩ rfl
        simp only [List.getElem?_cons_zero, List.getElem?_cons_succ] at x0 x1 x2 r0 r1 r2
        clear hf1 hx3 hr3
        go_wp2
        have hblk : Blk _ (xb + 1) TCA15 [.slice Ap np' cp, .slice A9 70 c9, .slice Ak nk' ck] := ((HR3.out.set 0 (.slice Ap np' cp)).set 1 (.slice A9 70 c9)).set 2 (.slice Ak nk' ck)
        have hfin : Fr wr _ (fun k => k = xb ∨ k = xb + 1) := (((HF1.out.setCell ⟨xb + 1, 0, none⟩ (.slice Ap np' cp) (fun _ => .inr rfl)).setCell ⟨xb + 1, 1, none⟩ (.slice A9 70 c9) (fun _ => .inr rfl)).setCell ⟨xb + 1, 2, none⟩ (.slice Ak nk' ck) (fun _ => .inr rfl))
        refine bodyPost_ret (results_cell_row rfl _ _ (xb + 1) TCA15 _ (0, 0) _ rfl hblk Try.underlying26 rfl casize15) rfl ?_
        refine HQ'.out _ _ ⟨_, rfl, ?_, ?_⟩
        · rw [HTK.out]
          exact Go.Proofs.YteeficpjggimcaaW.PrintWords.own_weaken (owns_types HO.out hfin (fun k hk => by
            rcases hk with rfl | rfl
            · exact ⟨_, _, HX2.out, by decide⟩
            · exact ⟨_, _, HR2.out, by decide⟩)) (by have := HB1.out.size; have := HXB.out; omega)
        · exact (HB1.out.trans (HBL.out.mono (by have := HB1.out.size; have := HXB.out; omega))).trans (hfin.below (by have := HBL.out.size; have := HB1.out.size; have := HXB.out; omega) (fun k hk => by omega))
    · have hj9 : j = S.length := by omega
      subst hj9
      have HTK := Lib.hid (show (S.take 70).length = S.length ∧ S.take 70 = S.take S.length from ⟨by simp; omega, by rw [List.take_of_length_le (by omega), List.take_of_length_le (Nat.le_refl _)]⟩)
      have z1 : wr.frozen? ⟨xb, 1, none⟩ = false := HX2.out.free _ rfl
      obtain ⟨A9, c9, e9, _, _⟩ := owns_slice HO.out
      subst e9
      have HR2 := Lib.hid (HR1.out.below HBL.out HR1.out.lt)
      have hf1 : Fr wr (wr.setCell ⟨xb, 1, none⟩ (.slice A9 S.length c9)) (fun k => k = xb ∨ k = xb + 1) := (Fr.refl wr _).setCell _ _ (fun _ => .inl rfl)
      have hx3 : Blk (wr.setCell ⟨xb, 1, none⟩ (.slice A9 S.length c9)) xb TCA15 [.slice Ap np' cp, .slice A9 S.length c9, .slice Ak nk' ck] := HX2.out.set 1 (.slice A9 S.length c9)
      have hr3 : Blk (wr.setCell ⟨xb, 1, none⟩ (.slice A9 S.length c9)) (xb + 1) TCA15 [.slice none 0 0, .slice none 0 0, .slice none 0 0] := HR2.out.other _ _ (by simp)
      have HF1 := Lib.hid hf1
      have HR3 := Lib.hid hr3
      have x0 := hx3.cell 0
      have x1 := hx3.cell 1
      have x2 := hx3.cell 2
      have r0 := hr3.cell 0
      have r1 := hr3.cell 1
      have r2 := hr3.cell 2
      have rz0 := hr3.free ⟨xb + 1, 0, none⟩ rfl
      have rz1 := hr3.free ⟨xb + 1, 1, none⟩ rfl
      have rz2 := hr3.free ⟨xb + 1, 2, none⟩ rfl
      simp only [List.getElem?_cons_zero, List.getElem?_cons_succ] at x0 x1 x2 r0 r1 r2
      clear hf1 hx3 hr3
      go_wp2
      have hblk : Blk _ (xb + 1) TCA15 [.slice Ap np' cp, .slice A9 S.length c9, .slice Ak nk' ck] := ((HR3.out.set 0 (.slice Ap np' cp)).set 1 (.slice A9 S.length c9)).set 2 (.slice Ak nk' ck)
      have hfin : Fr wr _ (fun k => k = xb ∨ k = xb + 1) := (((HF1.out.setCell ⟨xb + 1, 0, none⟩ (.slice Ap np' cp) (fun _ => .inr rfl)).setCell ⟨xb + 1, 1, none⟩ (.slice A9 S.length c9) (fun _ => .inr rfl)).setCell ⟨xb + 1, 2, none⟩ (.slice Ak nk' ck) (fun _ => .inr rfl))
      refine bodyPost_ret (results_cell_row rfl _ _ (xb + 1) TCA15 _ (0, 0) _ rfl hblk Try.underlying26 rfl casize15) rfl ?_
      refine HQ'.out _ _ ⟨_, rfl, ?_, ?_⟩
      · rw [HTK.out.1, HTK.out.2]
        exact Go.Proofs.YteeficpjggimcaaW.PrintWords.own_weaken (owns_types HO.out hfin (fun k hk => by
          rcases hk with rfl | rfl
          · exact ⟨_, _, HX2.out, by decide⟩
          · exact ⟨_, _, HR2.out, by decide⟩)) (by have := HB1.out.size; have := HXB.out; omega)
      · exact (HB1.out.trans (HBL.out.mono (by have := HB1.out.size; have := HXB.out; omega))).trans (hfin.below (by have := HBL.out.size; have := HB1.out.size; have := HXB.out; omega) (fun k hk => by omega))
end Go.Proofs.Yteeficpjggimcaa

/- chain: keys that rise; what an operation leaves beside the list. -/
namespace Go.Proofs.Yteeficpjggimcaa
open Go.RowKit Go.Proofs.YteeficpjggimcaaW.PrintWords Go.Proofs.YteeficpjggimcaaW.PrintLast Go.Proofs.Yteeficpjggimcaa.PChainCalls
set_option linter.unusedVariables false
set_option linter.unusedSimpArgs false

theorem rise_lt {xs : List SP} (h : RiseFrom xs 1) : ∀ (d i : Nat) (hd : i + (d + 1) < xs.length), (xs[i]'(by omega)).f0 < (xs[i + (d + 1)]'hd).f0 := fun d => by
  induction d with
  | zero => intro i hd; exact h i hd (by omega)
  | succ d ih =>
    intro i hd
    have h1 := ih i (by omega)
    have h2 := h (i + (d + 1)) (by omega) (by omega)
    exact Int.lt_trans h1 h2
theorem rise_srt {xs : List SP} (h : RiseFrom xs 1) : Srt (xs.map pr) := by
  rw [Srt, List.pairwise_iff_getElem]
  intro i j hi hj hij
  simp only [List.length_map] at hi hj
  simp only [List.getElem_map]
  obtain ⟨d, rfl⟩ : ∃ d, j = i + (d + 1) := ⟨j - i - 1, by omega⟩
  exact rise_lt h d i hj
section
variable {B B' : Nat} {w w' : World} {g : Option Nat} {ks ks' : List Int} {R : Nat → Option RecO} {X : Nat → Option ScxO} {bs : List Nat} {l l' : List (Int × Int)}
/-- A list of pairs in the call's own memory stays. -/
theorem ChStep.prow {v : Value} {m : List (Int × Int)} {C : Nat} (h : ChStep B B' g w R X bs ks' l' w') (hr : RepapiPair w R X) (hg : GAtI w B' g ks) (hp : PRow w C v m) : PRow w' C v m := by
  obtain ⟨R', X', bs', hs, _⟩ := h
  refine hp.fr hs.fr (fun k hk => ?_)
  rcases hk with hk | hk
  · obtain ⟨_, _, T, ys, hT, hy⟩ := hg.foot hk
    exact ⟨T, ys, hy, by rcases hT with rfl | rfl <;> decide⟩
  · obtain ⟨T, ys, hy, hT⟩ := foot_types hr hk
    exact ⟨T, ys, hy, by rcases hT with rfl | rfl | rfl <;> decide⟩
/-- What lies below the list's base stays. -/
theorem ChStep.below {A : Nat} (h : ChStep B 0 none w R X bs ks' l' w') (hc : Chn B w R X bs l) (hA : A ≤ B) (hw : A ≤ w.heap.size) : Below A w w' := by
  obtain ⟨R', X', bs', hs, _⟩ := h
  exact hs.fr0.below hw (fun k hk => Nat.le_trans hA (hc.lo k hk))
end
end Go.Proofs.Yteeficpjggimcaa

/- The argument of the statements of layer 15, as it is read. -/
namespace Go.Proofs.Yteeficpjggimcaa
open Go.ChangeShapes Go.WideShapes Go.ChangeAt Go.RowKit Go.Proofs.YteeficpjggimcaaW.PrintWords Go.Proofs.Yteeficpjggimcaa.PChainCalls
set_option linter.unusedVariables false
set_option linter.unusedSimpArgs false

abbrev SO := S37
theorem cells_int : Try.prog.cellsOf 3 = 1 := by kernel_rfl
theorem cells_pair : Try.prog.cellsOf TPA = 2 := by kernel_rfl
theorem cells_op : Try.prog.cellsOf TOP = 4 := by kernel_rfl
theorem cells_pairs : Try.prog.cellsOf TPAs = 1 := by kernel_rfl
theorem cells_ops : Try.prog.cellsOf TOPs = 1 := by kernel_rfl
theorem cells_scripts : Try.prog.cellsOf 23 = 1 := by kernel_rfl
theorem cells_row : Try.prog.cellsOf 24 = 1 := by kernel_rfl
theorem cells_case15 : Try.prog.cellsOf TCA15 = 3 := by kernel_rfl
theorem bytes_int : Try.prog.bytesOf 3 = 8 := by kernel_rfl
theorem bytes_pair : Try.prog.bytesOf TPA = 16 := by kernel_rfl
theorem bytes_op : Try.prog.bytesOf TOP = 32 := by kernel_rfl
theorem bytes_ops : Try.prog.bytesOf TOPs = 24 := by kernel_rfl
instance : Inhabited SP := ⟨⟨0, 0⟩⟩
instance : Inhabited SO := ⟨⟨0, 0, 0, 0⟩⟩

section
variable {H : Type} {enc : TypeId × Value → H} {W : World} {held : Bool}
abbrev Small (t : TypeId) (d : DataW H) : Prop := ∀ m ∈ d.weights Try.prog t, m ≤ 140737488351232
set_option maxRecDepth 100000 in
theorem open_pair_C {fuel : Nat} {cs : List Value} {x : DataW H × List MemPlace} (h : DataW.trod enc Try.prog W 0 (fun _ => true) held fuel TPA cs = some x) : ∃ y : SP, cs = [.int .i64 y.f0, .int .i64 y.f1] := by
  obtain ⟨xs, n', _, rfl, hlen, hxl, hf⟩ := DataW.trod_struct Try.underlying56 h
  rw [cells_pair] at hlen
  have hx2 : xs.length = 2 := hxl
  match cs, hlen, xs, hx2 with
  | [c0, c1], _, [y0, y1], _ =>
    have g0 : DataW.trod enc Try.prog W 0 (fun _ => true) held n' 3 [c0] = some y0 := by simpa [cells_int] using hf 0 _ rfl
    have g1 : DataW.trod enc Try.prog W 0 (fun _ => true) held n' 3 [c1] = some y1 := by simpa [cells_int] using hf 1 _ rfl
    obtain ⟨z0, e0, _⟩ := DataW.trod_int Try.underlying3 g0
    obtain ⟨z1, e1, _⟩ := DataW.trod_int Try.underlying3 g1
    simp only [List.cons.injEq, and_true] at e0 e1
    subst e0 e1
    exact ⟨⟨z0, z1⟩, rfl⟩
set_option maxRecDepth 100000 in
theorem open_op_C {fuel : Nat} {cs : List Value} {x : DataW H × List MemPlace} (h : DataW.trod enc Try.prog W 0 (fun _ => true) held fuel TOP cs = some x) : ∃ y : SO, cs = [.int .i64 y.f0, .int .i64 y.f1, .int .i64 y.f2, .int .i64 y.f3] := by
  obtain ⟨xs, n', _, rfl, hlen, hxl, hf⟩ := DataW.trod_struct Try.underlying37 h
  rw [cells_op] at hlen
  have hx4 : xs.length = 4 := hxl
  match cs, hlen, xs, hx4 with
  | [c0, c1, c2, c3], _, [y0, y1, y2, y3], _ =>
    have g0 : DataW.trod enc Try.prog W 0 (fun _ => true) held n' 3 [c0] = some y0 := by simpa [cells_int] using hf 0 _ rfl
    have g1 : DataW.trod enc Try.prog W 0 (fun _ => true) held n' 3 [c1] = some y1 := by simpa [cells_int] using hf 1 _ rfl
    have g2 : DataW.trod enc Try.prog W 0 (fun _ => true) held n' 3 [c2] = some y2 := by simpa [cells_int] using hf 2 _ rfl
    have g3 : DataW.trod enc Try.prog W 0 (fun _ => true) held n' 3 [c3] = some y3 := by simpa [cells_int] using hf 3 _ rfl
    obtain ⟨z0, e0, _⟩ := DataW.trod_int Try.underlying3 g0
    obtain ⟨z1, e1, _⟩ := DataW.trod_int Try.underlying3 g1
    obtain ⟨z2, e2, _⟩ := DataW.trod_int Try.underlying3 g2
    obtain ⟨z3, e3, _⟩ := DataW.trod_int Try.underlying3 g3
    simp only [List.cons.injEq, and_true] at e0 e1 e2 e3
    subst e0 e1 e2 e3
    exact ⟨⟨z0, z1, z2, z3⟩, rfl⟩
set_option maxRecDepth 100000 in
theorem open_pairs_C {fuel : Nat} {c : Value} {x : DataW H × List MemPlace} (h : DataW.trod enc Try.prog W 0 (fun _ => true) held fuel TPAs [c] = some x) (hs : Small TPAs x.1) :
    ∃ A k xs, c = .slice A (List.length xs) k ∧ xs.length ≤ k ∧ Kd.C k56 W A xs.length xs ∧ xs.length ≤ 10000000000000 := by
  rcases Go.Deep.open_slice Try.underlying22 h with ⟨hcs, _⟩ | ⟨a, len, cap, m, n, D, Pl, hcs, _, hl, hm, hmm, hx, hV⟩
  · exact ⟨none, 0, [], by simpa using hcs, by simp, Kd.C_nil _ _, by simp⟩
  · simp only [if_true] at hmm
    subst hx
    have hw := hs ((((List.range len).map D).length + ((List.range (m - len)).map fun j => D (len + j)).length) * Try.prog.bytesOf TPA) (by
      simp only [DataW.weights, Try.underlying22]
      exact List.mem_cons_self)
    rw [bytes_pair] at hw
    simp only [List.length_map, List.length_range] at hw
    obtain ⟨F, hF⟩ := Go.Deep.choose_lt (α := SP) (n := len) (p := fun i (y : SP) => ∀ (q : Nat) u, ([.int .i64 y.f0, .int .i64 y.f1] : List Value)[q]? = some u → W.cell? (a.add (i * 2 + q)) = some u) (fun i hi => by
      obtain ⟨cs', h1, h2⟩ := hV i (by omega)
      rw [cells_pair] at h1
      obtain ⟨_, hlen, hcell⟩ := World.cells?_some h1
      obtain ⟨y, rfl⟩ := open_pair_C h2
      refine ⟨y, fun q u hu => ?_⟩
      have hq : q < 2 := (List.getElem?_eq_some_iff.1 hu).1
      have := hcell q hq
      rw [Go.Deep.add_add] at this
      rw [this]
      exact hu)
    refine ⟨some a, cap, (List.range len).map F, by simpa using hcs, by simpa using hl, ⟨rfl, by simp only [maxLen] at hm; simp; omega, fun hl0 => ⟨a, rfl, fun j x hx => ⟨_, rfl, k56_mk W x, fun i u hu => ?_⟩⟩⟩, by simp; omega⟩
    have hj := (List.getElem?_eq_some_iff.1 hx).1
    simp only [List.length_map, List.length_range] at hj
    have hxe : F j = x := by simpa [hj] using hx
    subst hxe
    exact hF j hj i u hu
set_option maxRecDepth 100000 in
theorem open_ops_C {fuel : Nat} {c : Value} {x : DataW H × List MemPlace} (h : DataW.trod enc Try.prog W 0 (fun _ => true) held fuel TOPs [c] = some x) (hs : Small TOPs x.1) :
    ∃ A k xs, c = .slice A (List.length xs) k ∧ xs.length ≤ k ∧ Kd.C k37 W A xs.length xs ∧ xs.length ≤ 10000000000000 := by
  rcases Go.Deep.open_slice Try.underlying35 h with ⟨hcs, _⟩ | ⟨a, len, cap, m, n, D, Pl, hcs, _, hl, hm, hmm, hx, hV⟩
  · exact ⟨none, 0, [], by simpa using hcs, by simp, Kd.C_nil _ _, by simp⟩
  · simp only [if_true] at hmm
    subst hx
    have hw := hs ((((List.range len).map D).length + ((List.range (m - len)).map fun j => D (len + j)).length) * Try.prog.bytesOf TOP) (by
      simp only [DataW.weights, Try.underlying35]
      exact List.mem_cons_self)
    rw [bytes_op] at hw
    simp only [List.length_map, List.length_range] at hw
    obtain ⟨F, hF⟩ := Go.Deep.choose_lt (α := SO) (n := len) (p := fun i (y : SO) => ∀ (q : Nat) u, ([.int .i64 y.f0, .int .i64 y.f1, .int .i64 y.f2, .int .i64 y.f3] : List Value)[q]? = some u → W.cell? (a.add (i * 4 + q)) = some u) (fun i hi => by
      obtain ⟨cs', h1, h2⟩ := hV i (by omega)
      rw [cells_op] at h1
      obtain ⟨_, hlen, hcell⟩ := World.cells?_some h1
      obtain ⟨y, rfl⟩ := open_op_C h2
      refine ⟨y, fun q u hu => ?_⟩
      have hq : q < 4 := (List.getElem?_eq_some_iff.1 hu).1
      have := hcell q hq
      rw [Go.Deep.add_add] at this
      rw [this]
      exact hu)
    refine ⟨some a, cap, (List.range len).map F, by simpa using hcs, by simpa using hl, ⟨rfl, by simp only [maxLen] at hm; simp; omega, fun hl0 => ⟨a, rfl, fun j x hx => ⟨_, rfl, k37_mk W x, fun i u hu => ?_⟩⟩⟩, by simp; omega⟩
    have hj := (List.getElem?_eq_some_iff.1 hx).1
    simp only [List.length_map, List.length_range] at hj
    have hxe : F j = x := by simpa [hj] using hx
    subst hxe
    exact hF j hj i u hu
theorem weights_all {P : Program} {e : TypeId} {d : DataW H} : ∀ {l : List (DataW H)}, d ∈ l → ∀ m ∈ d.weights P e, m ∈ DataW.weightsAll P e l
  | x :: l, h, m, hm => by
    simp only [DataW.weightsAll, List.mem_append]
    rcases List.mem_cons.1 h with rfl | h
    · exact .inl hm
    · exact .inr (weights_all h m hm)
/-- A script: its slice, and its operations. -/
structure Scr where
  s : SlV
  ops : List SO
instance : Inhabited Scr := ⟨⟨⟨none, 0, 0⟩, []⟩⟩
structure Scr.Ok (W : World) (y : Scr) : Prop where
  len : y.s.n = y.ops.length
  cap : y.s.n ≤ y.s.c
  rd : Kd.C k37 W y.s.A y.ops.length y.ops
  max : y.ops.length ≤ 10000000000000
set_option maxRecDepth 100000 in
theorem open_scripts_C {fuel : Nat} {c : Value} {x : DataW H × List MemPlace} (h : DataW.trod enc Try.prog W 0 (fun _ => true) held fuel 23 [c] = some x) (hs : Small 23 x.1) :
    ∃ A k S, c = .slice A (List.length S) k ∧ S.length ≤ k ∧ Row1 W A S.length (S.map fun y : Scr => y.s.val) ∧ S.length ≤ 10000000000000 ∧ ∀ y ∈ S, y.Ok W := by
  rcases Go.Deep.open_slice1 Try.underlying23 cells_ops h with ⟨hcs, _⟩ | ⟨a, len, cap, m, n, V, D, Pl, hcs, _, hl, hm, hmm, hx, hV⟩
  · exact ⟨none, 0, [], by simpa using hcs, by simp, Row1.nil W, by simp, by simp⟩
  · simp only [if_true] at hmm
    subst hx
    have hw := hs ((((List.range len).map D).length + ((List.range (m - len)).map fun j => D (len + j)).length) * Try.prog.bytesOf TOPs) (by
      simp only [DataW.weights, Try.underlying23]
      exact List.mem_cons_self)
    rw [bytes_ops] at hw
    simp only [List.length_map, List.length_range] at hw
    obtain ⟨F, hF⟩ := Go.Deep.choose_lt (α := Scr) (n := len) (p := fun i (y : Scr) => V i = y.s.val ∧ y.Ok W) (fun i hi => by
      obtain ⟨A, k, xs, h1, h2, h3, h4⟩ := open_ops_C (hV i (by omega)).2 (fun q hq => hs q (by
        simp only [DataW.weights, Try.underlying23]
        refine List.mem_cons_of_mem _ (List.mem_append_left _ (weights_all (d := D i) ?_ q hq))
        exact List.mem_map.2 ⟨i, List.mem_range.2 hi, rfl⟩))
      exact ⟨⟨⟨A, xs.length, k⟩, xs⟩, h1, rfl, h2, h3, h4⟩)
    refine ⟨some a, cap, (List.range len).map F, by simpa using hcs, by simpa using hl, ⟨by simp, fun hl0 => ⟨a, rfl, fun j u hu => ?_⟩⟩, by simp; omega, fun y hy => ?_⟩
    · rw [List.map_map, List.getElem?_map, Option.map_eq_some_iff] at hu
      obtain ⟨i, hi, rfl⟩ := hu
      have hj := (List.getElem?_eq_some_iff.1 hi).1
      simp only [List.length_range] at hj
      have hie : i = j := by
        have := (List.getElem?_eq_some_iff.1 hi).2
        simpa using this.symm
      subst hie
      rw [(hV i (by omega)).1, (hF i hj).1]
      rfl
    · obtain ⟨i, hi, rfl⟩ := List.mem_map.1 hy
      exact (hF i (List.mem_range.1 hi)).2
theorem open_ints_C {fuel : Nat} {c : Value} {x : DataW H × List MemPlace} (h : DataW.trod enc Try.prog W 0 (fun _ => true) held fuel 24 [c] = some x) (hs : Small 24 x.1) :
    ∃ A k xs, c = .slice A (List.length xs) k ∧ xs.length ≤ k ∧ Kd.C (Kd.int .i64) W A xs.length xs ∧ xs.length * 8 ≤ 140737488351232 := by
  rcases open_ints Try.underlying24 Try.underlying3 cells_int h with ⟨hcs, _⟩ | ⟨a, len, cap, zs, hcs, _, hl, hm, hz, hx, hcell, _⟩
  · exact ⟨none, 0, [], by simpa using hcs, by simp, Kd.C_nil _ _, by simp⟩
  · simp only [if_true] at hz
    subst hx
    have hw := hs ((( lits (H := H) .i64 (zs.take len)).length + (lits (H := H) .i64 (zs.drop len)).length) * Try.prog.bytesOf 3) (by
      simp only [DataW.weights, Try.underlying24]
      exact List.mem_cons_self)
    rw [bytes_int] at hw
    have hll : (lits (H := H) .i64 (zs.take len)).length + (lits (H := H) .i64 (zs.drop len)).length = zs.length := by simp [lits]; omega
    rw [hll, hz] at hw
    have hlt : (zs.take len).length = len := by simp; omega
    refine ⟨some a, cap, zs.take len, by rw [hlt]; simpa using hcs, by omega, ⟨rfl, by simp only [maxLen] at hm; omega, fun _ => ⟨a, rfl, fun j p hp => ⟨[.int .i64 p], rfl, rfl, fun i u hu => ?_⟩⟩⟩, by omega⟩
    cases i with
    | zero =>
      simp only [List.getElem?_cons_zero, Option.some.injEq] at hu
      subst hu
      have hj := (List.getElem?_eq_some_iff.1 hp).1
      have hc := hcell j (by omega)
      have he : j * (Kd.int .i64).sz + 0 = j := by show j * 1 + 0 = j; omega
      rw [he, hc]
      rw [List.getElem?_take] at hp
      split at hp
      · simp [List.getD_eq_getElem?_getD, hp]
      · cases hp
    | succ i => simp at hu
theorem small_part {t : TypeId} {fs : Array Field} {xs : List (DataW H × List MemPlace)} (ht : Try.prog.underlying t = some (.struct fs)) (hs : Small t (DataW.agg (xs.map (·.1)))) {i : Nat} {f : Field} {y : DataW H × List MemPlace} (hf : fs[i]? = some f) (hy : xs[i]? = some y) : Small f.type y.1 := fun m hm => hs m (by
  simp only [DataW.weights, ht]
  exact DataW.weights_mem_each (j := i) (t := f.type) (d := y.1) (by simp [hf]) (by simp [hy]) m hm)
set_option maxRecDepth 100000 in
theorem open_case15 {r : Reach} {b0 : Nat} {v : Value} {d : DataW H} {p : List MemPlace} (hv : Value.okWide Try.prog W r b0 TCA15 v) (h : DataW.Trod enc Try.prog W 0 (fun _ => true) held TCA15 v d p) (hs : Small TCA15 d) :
    ∃ (Ap : Option Addr) (cp : Nat) (xs : List SP) (As : Option Addr) (cs : Nat) (S : List Scr) (Ak : Option Addr) (nk ck : Nat), v = .agg #[.slice Ap xs.length cp, .slice As S.length cs, .slice Ak nk ck] ∧
      xs.length ≤ cp ∧ Kd.C k56 W Ap xs.length xs ∧ xs.length ≤ 10000000000000 ∧ Row1 W As S.length (S.map fun y : Scr => y.s.val) ∧ S.length ≤ 10000000000000 ∧ (∀ y ∈ S, y.Ok W) ∧ nk ≤ ck ∧ nk ≤ 1000000000000000 := by
  obtain ⟨cs, rfl, hsz⟩ := okWide_struct Try.underlying26 hv
  rw [cells_case15] at hsz
  obtain ⟨fuel, hf0⟩ := h
  obtain ⟨xs, n', _, hx, hlen, hxl, hf⟩ := DataW.trod_struct Try.underlying26 hf0
  simp only [Prod.mk.injEq] at hx
  obtain ⟨hx1, hx2⟩ := hx
  subst hx1
  obtain ⟨cs⟩ := cs
  have hx3 : xs.length = 3 := hxl
  have hc3 : cs.length = 3 := by simpa using hsz
  match cs, hc3, xs, hx3 with
  | [c0, c1, c2], _, [y0, y1, y2], _ =>
    have g0 : DataW.trod enc Try.prog W 0 (fun _ => true) held n' TPAs [c0] = some y0 := by simpa [cells_pairs, Value.cells] using hf 0 _ rfl
    have g1 : DataW.trod enc Try.prog W 0 (fun _ => true) held n' 23 [c1] = some y1 := by simpa [cells_scripts, Value.cells] using hf 1 _ rfl
    have g2 : DataW.trod enc Try.prog W 0 (fun _ => true) held n' 24 [c2] = some y2 := by simpa [cells_row, Value.cells] using hf 2 _ rfl
    have s0 := small_part Try.underlying26 hs (i := 0) rfl rfl
    have s1 := small_part Try.underlying26 hs (i := 1) rfl rfl
    have s2 := small_part Try.underlying26 hs (i := 2) rfl rfl
    obtain ⟨Ap, cp, xs, rfl, h1, h2, h3⟩ := open_pairs_C g0 s0
    obtain ⟨As, cs, S, rfl, _, h5, h6, h7⟩ := open_scripts_C g1 s1
    obtain ⟨Ak, ck, ks, rfl, h8, _, h9⟩ := open_ints_C g2 s2
    exact ⟨Ap, cp, xs, As, cs, S, Ak, ks.length, ck, rfl, h1, h2, h3, h5, h6, h7, h8, by omega⟩
end
end Go.Proofs.Yteeficpjggimcaa

/- larchlaw15: pairs. chain: Do of no kind. -/
namespace Go.Proofs.Yteeficpjggimcaa
open Go.RowKit Go.Proofs.YteeficpjggimcaaW.PrintWords Go.Proofs.YteeficpjggimcaaW.PrintLast Go.Proofs.Yteeficpjggimcaa.PChainCalls
set_option linter.unusedVariables false
set_option linter.unusedSimpArgs false

set_option maxHeartbeats 4000000 in
theorem law15_pairs (w : World) (A : Option Addr) (c : Nat) (l : List (Int × Int)) (hl : l.length ≤ 1000000) (h : PRd w A l) (hc : l.length ≤ c) :
    Calls Try.prog 7 #[.slice A l.length c] w fun e w' => ∃ v, e = .returned v ∧ PRow w' w.heap.size v l ∧ Below w.heap.size w w' := by
  refine calls_hide fun Q HQ => ?_
  have HQ' := Lib.hid HQ
  have hcl := h.cells
  have HCL := Lib.hid (fun (o : Obj) => And.intro hcl.1 (fun hn : 0 < l.length => by
    obtain ⟨ad, e, hc9⟩ := hcl.2 hn
    exact (⟨ad, e, fun j u hu => pw_cell_below ((Below.refl w.heap.size w).alloc (Nat.le_refl _) o) (hc9 j u hu)⟩ : ∃ ad, A = some ad ∧ ∀ j u, (l.flatMap pcells)[j]? = some u → (w.alloc o).cell? (ad.add j) = some u)))
  clear HQ h hcl
  go_enter Try.func7, Try.ntmps7
  go_wp2_with (at_builtin; refine print_append_spread (W := w) rfl _ _ TPAs TPA (.agg #[.int .i64 0, .int .i64 0]) 2 16 (by decide) rfl Try.underlying22 pinfo_pair rfl (A := A) (n := l.length) (c := c) (us := l.flatMap pcells) rfl rfl (HCL.out _) (one_pairs l) (by simp only [maxLen]; omega) (by omega) ?_)
  intro v6 w6 ho6 hb6
  have HF := Lib.hid (HQ'.out _ w6 ⟨v6, rfl, PRow.of_own ho6, hb6⟩)
  clear ho6 hb6 HCL
  go_wp2
  exact HF.out
end Go.Proofs.Yteeficpjggimcaa

/- ChainCalls' loop: what stays from round to round, and what each call leaves of it. No walk. -/
namespace Go.Proofs.Yteeficpjggimcaa
open Go.RowKit Go.Proofs.YteeficpjggimcaaW.PrintWords Go.Proofs.YteeficpjggimcaaW.PrintLast Go.Proofs.YteeficpjggimcaaW.PrintMore Go.Proofs.Yteeficpjggimcaa.PChainCalls
set_option linter.unusedVariables false
set_option linter.unusedSimpArgs false

theorem kd_take {w : World} {A : Option Addr} {n m : Nat} {xs : List SP} (h : Kd.C k56 w A n xs) (hm : m ≤ n) : Kd.C k56 w A m (xs.take m) := by
  obtain ⟨h1, h2, h3⟩ := h
  refine ⟨by rw [List.length_take]; omega, by omega, fun hn => ?_⟩
  obtain ⟨ad, e, hc⟩ := h3 (by omega)
  refine ⟨ad, e, fun j p hp => hc j p ?_⟩
  have hj := (List.getElem?_eq_some_iff.1 hp).1
  rw [List.length_take] at hj
  rwa [List.getElem?_take_of_lt (by omega)] at hp
/-- The case's box, the scripts, the chain. -/
structure Lp (w : World) (xb B ch : Nat) (vs : List Value) (A2 : Option Addr) (n2 c3 : Nat) (T : List Value) (R : Nat → Option RecO) (X : Nat → Option ScxO) (bs : List Nat) (l : List (Int × Int)) (wr : World) : Prop where
  box : Blk wr xb TCA15 vs
  below : Below w.heap.size w wr
  own : wr.ownsRow xb TOPs 1 (.slice A2 n2 c3) n2 T
  chn : Chn B wr R X bs l
  chb : Blk wr ch TCH [pv bs[0]?]
  base : w.heap.size ≤ B
  top : B ≤ wr.heap.size
section
variable {w wr w2 : World} {xb B ch n2 c3 : Nat} {vs T : List Value} {A2 : Option Addr} {R : Nat → Option RecO} {X : Nat → Option ScxO} {bs : List Nat} {l l' : List (Int × Int)}
theorem Lp.go (h : Lp w xb B ch vs A2 n2 c3 T R X bs l wr) (hb : Below wr.heap.size wr w2) : Lp w xb B ch vs A2 n2 c3 T R X bs l w2 :=
  ⟨h.box.below hb h.box.lt, h.below.trans (hb.mono h.below.size), Go.Proofs.YteeficpjggimcaaW.PrintWords.own_move h.own (fun k hk => hb.block k (World.ownsRow.lt h.own k hk).2), h.chn.below hb, h.chb.below hb h.chb.lt, h.base, Nat.le_trans h.top hb.size⟩
theorem Lp.set (h : Lp w xb B ch vs A2 n2 c3 T R X bs l wr) {S : Nat → Prop} (hf : Fr wr w2 S) {b : Nat} (hS : ∀ k, S k → k = b) {us : List Value} (hb : Blk wr b TRT us) (hw : w.heap.size ≤ b) : Lp w xb B ch vs A2 n2 c3 T R X bs l w2 := by
  have hT : ∀ k, S k → ∃ T' ys, Blk wr k T' ys ∧ T' = TRT := fun k hk => ⟨TRT, us, (hS k hk).symm ▸ hb, rfl⟩
  have hbl := hf.below (Nat.le_of_lt hb.lt) (fun k hk => by rw [hS k hk]; exact Nat.le_refl _)
  refine ⟨hf.blk h.box (fun hk => ?_), h.below.trans (hf.below h.below.size (fun k hk => by rw [hS k hk]; exact hw)), owns_types h.own hf (fun k hk => ?_), h.chn.types hf (fun k hk => ?_), hf.blk h.chb (fun hk => ?_), h.base, Nat.le_trans h.top hbl.size⟩
  · obtain ⟨T', ys, hy, e⟩ := hT _ hk
    have := (hy.inj h.box).1
    rw [e] at this; exact absurd this (by decide)
  · obtain ⟨T', ys, hy, e⟩ := hT _ hk
    exact ⟨T', ys, hy, by rw [e]; decide⟩
  · obtain ⟨T', ys, hy, e⟩ := hT _ hk
    exact ⟨T', ys, hy, by rw [e]; decide, by rw [e]; decide, by rw [e]; decide⟩
  · obtain ⟨T', ys, hy, e⟩ := hT _ hk
    have := (hy.inj h.chb).1
    rw [e] at this; exact absurd this (by decide)
theorem Lp.op (h : Lp w xb B ch vs A2 n2 c3 T R X bs l wr) {ks : List Int} (hs : ChStep B 0 none wr R X bs ks l' w2) : ∃ R' X' bs', Lp w xb B ch vs A2 n2 c3 T R' X' bs' l' w2 := by
  have hbox := hs.blk h.chn.rep (gnil wr) h.box (by decide) (by decide) (by decide) (by decide) (by decide)
  have hchb := hs.blk h.chn.rep (gnil wr) h.chb (by decide) (by decide) (by decide) (by decide) (by decide)
  have hbel := hs.below h.chn h.base h.below.size
  obtain ⟨R', X', bs', h1, h2, h3, h4, h5⟩ := hs
  refine ⟨R', X', bs', hbox, h.below.trans hbel, owns_types h.own h1.fr (fun k hk => ?_), h3, by rw [h4]; exact hchb, h.base, Nat.le_trans h.top hbel.size⟩
  rcases hk with hk | hk
  · obtain ⟨_, _, T, ys, hT, hy⟩ := (gnil wr).foot hk
    exact ⟨T, ys, hy, by rcases hT with rfl | rfl <;> decide⟩
  · obtain ⟨T, ys, hy, hT⟩ := foot_types h.chn.rep hk
    exact ⟨T, ys, hy, by rcases hT with rfl | rfl | rfl <;> decide⟩
/-- A box of a Ret or of an Op stays. -/
theorem Lp.opBlk (h : Lp w xb B ch vs A2 n2 c3 T R X bs l wr) {ks : List Int} (hs : ChStep B 0 none wr R X bs ks l' w2) {b : Nat} {us : List Value} {t : Nat} (ht : t = TRT ∨ t = TOP) (hb : Blk wr b t us) : Blk w2 b t us :=
  hs.blk h.chn.rep (gnil wr) hb (by rcases ht with rfl | rfl <;> decide) (by rcases ht with rfl | rfl <;> decide) (by rcases ht with rfl | rfl <;> decide) (by rcases ht with rfl | rfl <;> decide) (by rcases ht with rfl | rfl <;> decide)
theorem Lp.opRow (h : Lp w xb B ch vs A2 n2 c3 T R X bs l wr) {ks : List Int} (hs : ChStep B 0 none wr R X bs ks l' w2) {v : Value} {m : List (Int × Int)} {C : Nat} (hp : PRow wr C v m) : PRow w2 C v m := hs.prow h.chn.rep (gnil wr) hp
/-- A store into a Ret's box leaves the pairs. -/
theorem PRow.set {v : Value} {m : List (Int × Int)} {C : Nat} (hp : PRow wr C v m) {S : Nat → Prop} (hf : Fr wr w2 S) {b : Nat} (hS : ∀ k, S k → k = b) {us : List Value} (hb : Blk wr b TRT us) : PRow w2 C v m :=
  hp.fr hf (fun k hk => ⟨TRT, us, (hS k hk).symm ▸ hb, by decide⟩)
end
/-- A script as `less` leaves it. -/
theorem script_at {w wr : World} {xb n2 c3 : Nat} {A2 : Option Addr} {S : List Scr} (ho : wr.ownsRow xb TOPs 1 (.slice A2 n2 c3) n2 (((S.map Scr.s).take 70 |>.map SlV.cut).map SlV.val)) (hS : ∀ y ∈ S, y.Ok w) {i : Nat} (hi : i < n2) :
    ∃ ad A n c ops, A2 = some ad ∧ wr.cell? (ad.add i) = some (.slice A n c) ∧ n ≤ c ∧ n ≤ List.length ops ∧ Kd.C k37 w A ops.length ops ∧ ops.length ≤ 10000000000000 := by
  obtain ⟨A, c, e, hrow, hc⟩ := owns_slice ho
  simp only [Value.slice.injEq] at e
  obtain ⟨rfl, _, rfl⟩ := e
  have hlen := ho.1
  simp only [List.length_map, List.length_take] at hlen
  have hiS : i < S.length := by omega
  have hx : (((S.map Scr.s).take 70 |>.map SlV.cut).map SlV.val)[i]? = some (SlV.val (SlV.cut S[i].s)) := by
    rw [List.getElem?_map, List.getElem?_map, List.getElem?_take_of_lt (by omega), List.getElem?_map, List.getElem?_eq_getElem hiS]
    rfl
  obtain ⟨ad, hA, hcell⟩ := hrow.at_ hx
  have hy := hS S[i] (List.getElem_mem hiS)
  refine ⟨ad, (SlV.cut S[i].s).A, (SlV.cut S[i].s).n, (SlV.cut S[i].s).c, S[i].ops, hA, hcell, ?_, ?_, ?_, hy.max⟩
  · have := hy.cap
    unfold SlV.cut; split <;> simp <;> omega
  · have := hy.len
    unfold SlV.cut; split <;> simp <;> omega
  · have := hy.rd
    unfold SlV.cut; split <;> exact this
/-- An operation. -/
theorem op_at {w : World} {A : Option Addr} {n : Nat} {ops : List SO} (h : Kd.C k37 w A n ops) {k : Nat} (hk : k < n) : ∃ ad f0 f1 f2 f3, A = some ad ∧ w.cell? (ad.add (k * 4)) = some (.int .i64 f0) ∧ w.cell? ⟨(ad.add (k * 4)).block, (ad.add (k * 4)).off + 1, none⟩ = some (.int .i64 f1) ∧ w.cell? ⟨(ad.add (k * 4)).block, (ad.add (k * 4)).off + 2, none⟩ = some (.int .i64 f2) ∧ w.cell? ⟨(ad.add (k * 4)).block, (ad.add (k * 4)).off + 3, none⟩ = some (.int .i64 f3) := by
  obtain ⟨ad, e, h0, h1, h2, h3⟩ := at_T37 h (k : Int) (by omega) (by omega)
  rw [Int.toNat_natCast] at h0 h1 h2 h3
  exact ⟨ad, _, _, _, _, e, h0, h1, h2, h3⟩
theorem add_srt {key val : Int} {l : List (Int × Int)} (h : Srt l) : Srt (addL l key val) := by
  unfold addL; split
  · exact h
  · exact put_srt h
theorem add_len {key val : Int} (l : List (Int × Int)) : (addL l key val).length ≤ l.length + 1 := by
  unfold addL; split
  · omega
  · exact put_len l
theorem del_len {key : Int} (l : List (Int × Int)) : (delL l key).length ≤ l.length + 1 := by
  have := (del_sub key l).length_le; omega
theorem with_add {key val : Int} {l : List (Int × Int)} (h : Srt l) : (if (lookL l key).2 then l else withL key val l false) = addL l key val := by
  unfold addL; rw [look_get key l h, with_put key val l h]
end Go.Proofs.Yteeficpjggimcaa

/- ChainCalls: each call of the round as the round meets it. No walk. -/
namespace Go.Proofs.Yteeficpjggimcaa
open Go.RowKit Go.Proofs.YteeficpjggimcaaW.PrintWords Go.Proofs.YteeficpjggimcaaW.PrintLast Go.Proofs.YteeficpjggimcaaW.PrintMore Go.Proofs.Yteeficpjggimcaa.PChainCalls
set_option linter.unusedVariables false
set_option linter.unusedSimpArgs false

theorem range_len (l : List (Int × Int)) (lo hi : Int) : (rangeL l lo hi).length ≤ l.length := by
  unfold rangeL; split
  · exact Nat.zero_le _
  · refine Nat.le_trans (List.length_filter_le _ _) ?_
    rw [List.length_take]; omega
theorem prd_nil (w : World) : PRd w none [] := Kd.C_nil _ _
theorem sameret_none (w : World) (ok : Bool) (v : Int) :
    Calls Try.prog 16 #[.agg #[.bool ok, .int .i64 0, .int .i64 v, .slice none 0 0], .agg #[.bool ok, .int .i64 0, .int .i64 v, .slice none 0 0]] w fun e w' => e = .returned (.bool true) ∧ Below w.heap.size w w' :=
  ref06_sameret w ok 0 v none none 0 0 [] (by simp) (prd_nil w) (by simp) (prd_nil w) (by simp)
section
variable {w : World} {B B' : Nat} {v v' : Value} {l : List (Int × Int)}
theorem sameret_rows (hl : l.length ≤ 1000000) (h : PRow w B v l) (h' : PRow w B' v' l) :
    Calls Try.prog 16 #[.agg #[.bool true, .int .i64 0, .int .i64 0, v], .agg #[.bool true, .int .i64 0, .int .i64 0, v']] w fun e w' => e = .returned (.bool true) ∧ Below w.heap.size w w' := by
  obtain ⟨A, c, rfl, h1, h2⟩ := h.rd
  obtain ⟨A', c', rfl, h3, h4⟩ := h'.rd
  exact ref06_sameret w true 0 0 A A' c c' l (by omega) h1 h2 h3 h4
theorem same_rows (hl : l.length ≤ 1000000) (h : PRow w B v l) (h' : PRow w B' v' l) :
    Calls Try.prog 17 #[v, v'] w fun e w' => e = .returned (.bool true) ∧ Below w.heap.size w w' := by
  obtain ⟨A, c, rfl, h1, h2⟩ := h.rd
  obtain ⟨A', c', rfl, h3, h4⟩ := h'.rd
  exact ref06_same w A A' c c' l (by omega) h1 h2 h3 h4
theorem step15_1 (key val hi : Int) (hl : l.length ≤ 1000000) (hs : Srt l) (h : PRow w B v l) :
    Calls Try.prog 9 #[v, .agg #[.int .i64 1, .int .i64 key, .int .i64 val, .int .i64 hi]] w fun e w' => ∃ nv, e = .returned (.tuple #[nv, .agg #[.bool (getV l key).2, .int .i64 0, .int .i64 (getV l key).1, .slice none 0 0]]) ∧ PRow w' 0 nv l ∧ Below w.heap.size w w' := by
  obtain ⟨A, c, rfl, h1, h2⟩ := h.rd
  have H := step06_1 w A c l key val hi hl h1 h2
  rw [look_get key l hs] at H
  rw [List.length_map]
  exact H.mono fun e w' ⟨nv, e1, e2, e3⟩ => ⟨nv, e1, e2.lower (Nat.zero_le _), e3⟩
theorem step15_2 (key val hi : Int) (hl : l.length ≤ 1000000) (hs : Srt l) (h : PRow w B v l) :
    Calls Try.prog 9 #[v, .agg #[.int .i64 2, .int .i64 key, .int .i64 val, .int .i64 hi]] w fun e w' => ∃ nv, e = .returned (.tuple #[nv, .agg #[.bool (getV l key).2, .int .i64 0, .int .i64 (getV l key).1, .slice none 0 0]]) ∧ PRow w' 0 nv (putL l key val) ∧ Below w.heap.size w w' := by
  obtain ⟨A, c, rfl, h1, h2⟩ := h.rd
  have H := step06_2 w A c l key val hi hl h1 h2
  rw [look_get key l hs, with_put key val l hs] at H
  rw [List.length_map]
  exact H.mono fun e w' ⟨nv, e1, e2, e3⟩ => ⟨nv, e1, e2.lower (Nat.zero_le _), e3⟩
theorem step15_3 (key val hi : Int) (hl : l.length ≤ 1000000) (hs : Srt l) (h : PRow w B v l) :
    Calls Try.prog 9 #[v, .agg #[.int .i64 3, .int .i64 key, .int .i64 val, .int .i64 hi]] w fun e w' => ∃ nv, e = .returned (.tuple #[nv, .agg #[.bool (!(getV l key).2), .int .i64 0, .int .i64 (getV l key).1, .slice none 0 0]]) ∧ PRow w' 0 nv (addL l key val) ∧ Below w.heap.size w w' := by
  obtain ⟨A, c, rfl, h1, h2⟩ := h.rd
  have H := step06_3 w A c l key val hi hl h1 h2
  rw [with_add hs, look_get key l hs] at H
  rw [List.length_map]
  exact H.mono fun e w' ⟨nv, e1, e2, e3⟩ => ⟨nv, e1, e2.lower (Nat.zero_le _), e3⟩
theorem step15_4 (key val hi : Int) (hl : l.length ≤ 1000000) (hs : Srt l) (h : PRow w B v l) :
    Calls Try.prog 9 #[v, .agg #[.int .i64 4, .int .i64 key, .int .i64 val, .int .i64 hi]] w fun e w' => ∃ nv, e = .returned (.tuple #[nv, .agg #[.bool (getV l key).2, .int .i64 0, .int .i64 (getV l key).1, .slice none 0 0]]) ∧ PRow w' 0 nv (delL l key) ∧ Below w.heap.size w w' := by
  obtain ⟨A, c, rfl, h1, h2⟩ := h.rd
  have H := step06_4 w A c l key val hi hl h1 h2
  rw [look_get key l hs, with_del key l hs] at H
  rw [List.length_map]
  exact H.mono fun e w' ⟨nv, e1, e2, e3⟩ => ⟨nv, e1, e2.lower (Nat.zero_le _), e3⟩
theorem step15_9 (key val hi : Int) (hl : l.length ≤ 1000000) (hs : Srt l) (h : PRow w B v l) :
    Calls Try.prog 9 #[v, .agg #[.int .i64 9, .int .i64 key, .int .i64 val, .int .i64 hi]] w fun e w' => ∃ nv pv_, e = .returned (.tuple #[nv, .agg #[.bool true, .int .i64 0, .int .i64 0, pv_]]) ∧ PRow w' 0 nv l ∧ PRow w' 0 pv_ (rangeL l key hi) ∧ Below w.heap.size w w' := by
  obtain ⟨A, c, rfl, h1, h2⟩ := h.rd
  have H := step06_9 w A c l key val hi hl h1 h2
  have he : insL key hi l = rangeL l key hi := by
    by_cases hh : key > hi
    · exact ins_empty key hi hh l
    · exact ins_range key hi hh l hs
  rw [he] at H
  rw [List.length_map]
  exact H.mono fun e w' ⟨nv, rv, e1, e2, e3, e4⟩ => ⟨nv, rv, e1, e2.lower (Nat.zero_le _), e3.lower (Nat.zero_le _), e4⟩
theorem step15_bad (kd key val hi : Int) (hk1 : (kd == 1) = false) (hk2 : (kd == 2) = false) (hk3 : (kd == 3) = false) (hk4 : (kd == 4) = false) (hk9 : (kd == 9) = false) (hl : l.length ≤ 1000000) (h : PRow w B v l) :
    Calls Try.prog 9 #[v, .agg #[.int .i64 kd, .int .i64 key, .int .i64 val, .int .i64 hi]] w fun e w' => ∃ nv x0 x1 x2, e = .returned (.tuple #[nv, .agg #[.bool x0, .int .i64 x1, .int .i64 x2, .slice none 0 0]]) ∧ Below w.heap.size w w' := by
  obtain ⟨A, c, rfl, h1, h2⟩ := h.rd
  rw [List.length_map]
  by_cases hk5 : kd = 5
  · subst hk5; exact step06_5 w A c l key val hi hl h1 h2
  by_cases hk6 : kd = 6
  · subst hk6; exact step06_6 w A c l key val hi hl h1 h2
  by_cases hk7 : kd = 7
  · subst hk7; exact step06_7 w A c l key val hi hl h1 h2
  by_cases hk8 : kd = 8
  · subst hk8; exact step06_8 w A c l key val hi hl h1 h2
  exact step06_bad w kd A c l key val hi hl h1 h2 hk1 hk2 hk3 hk4 (by simpa using hk5) (by simpa using hk6) (by simpa using hk7) (by simpa using hk8) hk9
end
end Go.Proofs.Yteeficpjggimcaa

/- larchlaw15.ChainCalls: the walk. (Printed by p_calls15.py.) -/
namespace Go.Proofs.Yteeficpjggimcaa
open Go.RowKit Go.Proofs.YteeficpjggimcaaW.PrintWords Go.Proofs.YteeficpjggimcaaW.PrintLast Go.Proofs.YteeficpjggimcaaW.PrintMore Go.Proofs.Yteeficpjggimcaa.PChainCalls
attribute [local go_sem] max2_int min2_int max_two min_two max_three min_three max_four min_four
set_option linter.unusedVariables false
set_option linter.unusedSimpArgs false

set_option maxHeartbeats 4000000 in
set_option maxRecDepth 100000 in
theorem law15_ChainCalls (w : World) (Ap : Option Addr) (cp : Nat) (xs : List SP) (As : Option Addr) (cs : Nat) (S : List Scr) (Ak : Option Addr) (nk ck : Nat) (h1 : xs.length ≤ cp) (h2 : Kd.C k56 w Ap xs.length xs) (h3 : xs.length ≤ 10000000000000) (h4 : Row1 w As S.length (S.map fun y : Scr => y.s.val)) (h5 : S.length ≤ 10000000000000) (h6 : ∀ y ∈ S, y.Ok w) (h7 : nk ≤ ck) (h8 : nk ≤ 1000000000000000) :
    Calls Try.prog 3 #[.agg #[.slice Ap xs.length cp, .slice As S.length cs, .slice Ak nk ck]] w fun e w' => e = .returned (.bool true) ∧ Below w.heap.size w w' := by
  refine calls_hide fun Q HQ => ?_
  have HQ' := Lib.hid HQ
  have HP := Lib.hid (And.intro h1 h2)
  have HS := Lib.hid (And.intro h4 h6)
  have hbw := (Below.refl w.heap.size w).alloc (Nat.le_refl _) (.cells #[.slice Ap xs.length cp, .slice As S.length cs, .slice Ak nk ck] TCA15)
  have HB0 := Lib.hid hbw
  have HX0 := Lib.hid (Blk.new w TCA15 [.slice Ap xs.length cp, .slice As S.length cs, .slice Ak nk ck])
  have HF := Lib.hid (law15_fixed (w.alloc (.cells #[.slice Ap xs.length cp, .slice As S.length cs, .slice Ak nk ck] TCA15)))
  clear HQ h1 h2 h4 h6 hbw
  go_enter Try.func3, Try.ntmps3
  go_wp2_with fail
  generalize w.alloc (.cells #[.slice Ap xs.length cp, .slice As S.length cs, .slice Ak nk ck] 26) = w0 at *
  generalize hxb : w.heap.size = xb at *
  have HXB := Lib.hid hxb
  clear hxb
  refine HF.out.mono ?_
  rintro e w1 ⟨rfl, hb⟩
  have HX1 := Lib.hid (HX0.out.below hb HX0.out.lt)
  have HB1 := Lib.hid (show Below w.heap.size w w1 from by rw [HXB.out]; exact HB0.out.trans (hb.mono (by have := HB0.out.size; have := HXB.out; omega)))
  clear hb HF HB0 HX0
  have hls := law15_less w1 Ap xs.length cp As cs (S.map Scr.s) Ak nk ck HP.out.1 h7 (by rw [List.length_map, List.map_map]; exact HS.out.1.below HB1.out) (fun x hx => by obtain ⟨y, hy, rfl⟩ := List.mem_map.1 hx; exact (HS.out.2 y hy).cap) (by omega) (by omega) (by rw [List.length_map]; omega) (fun x hx => by
    obtain ⟨y, hy, rfl⟩ := List.mem_map.1 hx
    have h9 := HS.out.2 y hy
    have := h9.len; have := h9.max; omega)
  rw [List.length_map] at hls
  have HLS := Lib.hid hls
  have c0 := HX1.out.cell 0
  have c1 := HX1.out.cell 1
  have c2 := HX1.out.cell 2
  simp only [List.getElem?_cons_zero, List.getElem?_cons_succ] at c0 c1 c2
  clear hls
  go_wp2_with fail
  refine HLS.out.mono ?_
  rintro e w2 ⟨v, rfl, hown, hb⟩
  have HX2 := Lib.hid (HX1.out.below hb HX1.out.lt)
  have HB2 := Lib.hid (HB1.out.trans (hb.mono HB1.out.size))
  obtain ⟨A2, c3, ev, hrow, _⟩ := owns_slice hown
  subst ev
  have HO := Lib.hid (Go.Proofs.YteeficpjggimcaaW.PrintWords.own_weaken hown (show xb ≤ w1.heap.size by have := HB1.out.size; have := HXB.out; omega))
  clear c0 c1 c2 hb hown hrow HLS HX1 HB1
  have c0 := HX2.out.cell 0
  have c1 := HX2.out.cell 1
  have c2 := HX2.out.cell 2
  have z0 : w2.frozen? ⟨xb, 0, none⟩ = false := HX2.out.free _ rfl
  have z1 : w2.frozen? ⟨xb, 1, none⟩ = false := HX2.out.free _ rfl
  have z2 : w2.frozen? ⟨xb, 2, none⟩ = false := HX2.out.free _ rfl
  simp only [List.getElem?_cons_zero, List.getElem?_cons_succ] at c0 c1 c2
  generalize hn1 : min xs.length 1100 = n1 at *
  generalize hn2 : (S.map Scr.s |>.take 70).length = n2 at *
  have hn1c : n1 ≤ cp := by have := HP.out.1; omega
  have HN := Lib.hid (And.intro hn1 hn2)
  clear hn1 hn2
  obtain ⟨m1, hm1, hmin⟩ : ∃ m1 : Nat, m1 = min n1 100 ∧ (if (100 : Int) < (n1 : Int) then (100 : Int) else (n1 : Int)) = (m1 : Int) := ⟨min n1 100, rfl, by split <;> omega⟩
  have hm1c : m1 ≤ cp := by omega
  have HM := Lib.hid hm1
  clear hm1
  go_wp2_with fail
  have hx3 : Blk ((((w2.setCell ⟨xb, 0, none⟩ (.slice Ap n1 cp)).setCell ⟨xb, 1, none⟩ (.slice A2 n2 c3)).setCell ⟨xb, 2, none⟩ (.slice Ak (min nk 700) ck)).setCell ⟨xb, 0, none⟩ (.slice Ap m1 cp)) xb TCA15 [.slice Ap m1 cp, .slice A2 n2 c3, .slice Ak (min nk 700) ck] := (((HX2.out.set 0 (.slice Ap n1 cp)).set 1 (.slice A2 n2 c3)).set 2 (.slice Ak (min nk 700) ck)).set 0 (.slice Ap m1 cp)
  have hf3 : Fr w2 ((((w2.setCell ⟨xb, 0, none⟩ (.slice Ap n1 cp)).setCell ⟨xb, 1, none⟩ (.slice A2 n2 c3)).setCell ⟨xb, 2, none⟩ (.slice Ak (min nk 700) ck)).setCell ⟨xb, 0, none⟩ (.slice Ap m1 cp)) (fun k => k = xb) := ((((Fr.refl w2 (fun k => k = xb)).setCell ⟨xb, 0, none⟩ (.slice Ap n1 cp) (fun _ => rfl)).setCell ⟨xb, 1, none⟩ (.slice A2 n2 c3) (fun _ => rfl)).setCell ⟨xb, 2, none⟩ (.slice Ak (min nk 700) ck) (fun _ => rfl)).setCell ⟨xb, 0, none⟩ (.slice Ap m1 cp) (fun _ => rfl)
  have HX3 := Lib.hid hx3
  have HO3 := Lib.hid (owns_types HO.out hf3 (fun k hk => ⟨TCA15, _, hk ▸ HX2.out, by decide⟩))
  have HB3 := Lib.hid (HB2.out.trans (hf3.below HB2.out.size (fun k hk => by have := HXB.out; omega)))
  clear hx3 hf3 HX2 HB2 HO c0 c1 c2 z0 z1 z2 hmin
  generalize (((w2.setCell ⟨xb, 0, none⟩ (.slice Ap n1 cp)).setCell ⟨xb, 1, none⟩ (.slice A2 n2 c3)).setCell ⟨xb, 2, none⟩ (.slice Ak (min nk 700) ck)).setCell ⟨xb, 0, none⟩ (.slice Ap m1 cp) = w3 at *
  have hmx : m1 ≤ xs.length := by have := HM.out; have := HN.out.1; omega
  have hm100 : m1 ≤ 100 := by have := HM.out; omega
  have hml : (xs.take m1).length = m1 := by rw [List.length_take]; omega
  have HRD := Lib.hid (kd_take HP.out.2 hmx)
  generalize xs.take m1 = ys at *
  have hsl : ((ys.map pr).map sp).length = m1 := by simpa using hml
  have HYS := Lib.hid (And.intro hml hsl)
  have hpa := law15_pairs w3 Ap cp (ys.map pr) (by simp; omega) (by
    show Kd.C k56 w3 Ap ((ys.map pr).map sp).length ((ys.map pr).map sp)
    rw [hsl, map_sp_pr]
    exact Kd.C_below HRD.out HB3.out) (by simp; omega)
  rw [List.length_map, hml] at hpa
  have HPA := Lib.hid hpa
  clear hpa hml hsl
  refine HPA.out.mono ?_
  rintro e w4 ⟨v4, rfl, hrow, hb4⟩
  obtain ⟨A4, c4, e4, hrd4, hc4⟩ := hrow.rd
  rw [HYS.out.2] at e4
  subst e4
  have HX4 := Lib.hid (HX3.out.below hb4 HX3.out.lt)
  have HB4 := Lib.hid (HB3.out.trans (hb4.mono HB3.out.size))
  have HRD4 := Lib.hid (show Kd.C k56 w4 A4 ys.length ys ∧ ys.length ≤ c4 from by
    unfold PRd at hrd4
    rw [map_sp_pr] at hrd4
    exact ⟨hrd4, by simpa using hc4⟩)
  have HO4 := Lib.hid (Go.Proofs.YteeficpjggimcaaW.PrintWords.own_move HO3.out (fun k hk => hb4.block k (World.ownsRow.lt HO3.out k hk).2))
  clear hrow hrd4 hc4 hb4 HX3 HO3 HB3 HPA
  by_cases hrise : RiseFrom ys 1
  · have hnw := chain_new w4 A4 c4 ys (by have := HYS.out.1; omega) HRD4.out.1 HRD4.out.2 hrise
    rw [HYS.out.1] at hnw
    have HNW := Lib.hid hnw
    have HCK := Lib.hid (show chkP ys = 0 from if_pos hrise)
    have HSR := Lib.hid (rise_srt hrise)
    clear hnw hrise
    go_wp2_with fail
    refine HNW.out.mono ?_
    rintro e w5 ⟨ch, R, X, bs, rfl, hch, hblk, hge, hb5⟩
    have HX5 := Lib.hid (HX4.out.below hb5 HX4.out.lt)
    have HT5 := Lib.hid hb5.size
    have HB5 := Lib.hid (HB4.out.trans (hb5.mono HB4.out.size))
    have HO5 := Lib.hid (Go.Proofs.YteeficpjggimcaaW.PrintWords.own_move HO4.out (fun k hk => hb5.block k (World.ownsRow.lt HO4.out k hk).2))
    have HC5 := Lib.hid (And.intro hch hblk)
    have HGE := Lib.hid (show xb < w4.heap.size from HX4.out.lt)
    have hck := ref06_check w5 Ap cp ys (by have := HYS.out.1; omega) (by rw [HYS.out.1]; exact Kd.C_below HRD.out HB5.out) (by have := HYS.out.1; omega)
    rw [HYS.out.1, HCK.out] at hck
    have HC := Lib.hid hck
    have c0 := HX5.out.cell 0
    simp only [List.getElem?_cons_zero] at c0
    clear hb5 hck HNW hch hblk hge HX4 HB4 HO4
    go_wp2_with fail
    refine HC.out.mono ?_
    rintro e w6 ⟨rfl, hb6⟩
    have HX6 := Lib.hid (HX5.out.below hb6 HX5.out.lt)
    have HT6 := Lib.hid (Nat.le_trans HT5.out hb6.size)
    have HB6 := Lib.hid (HB5.out.trans (hb6.mono HB5.out.size))
    have HO6 := Lib.hid (Go.Proofs.YteeficpjggimcaaW.PrintWords.own_move HO5.out (fun k hk => hb6.block k (World.ownsRow.lt HO5.out k hk).2))
    have HC6 := Lib.hid (And.intro (HC5.out.1.below hb6) (HC5.out.2.below hb6 HC5.out.2.lt))
    have hpa := law15_pairs w6 Ap cp (ys.map pr) (by have := HYS.out.1; simp; omega) (by
      show Kd.C k56 w6 Ap ((ys.map pr).map sp).length ((ys.map pr).map sp)
      rw [HYS.out.2, map_sp_pr]
      exact Kd.C_below HRD.out HB6.out) (by have := HYS.out.1; simp; omega)
    rw [List.length_map, HYS.out.1] at hpa
    have HPA := Lib.hid hpa
    have c0' := HX6.out.cell 0
    simp only [List.getElem?_cons_zero] at c0'
    clear hpa hb6 HC HC5 HX5 HB5 HO5 c0
    go_wp2_with fail
    refine HPA.out.mono ?_
    rintro e w7 ⟨v7, rfl, hrow, hb7⟩
    have HX7 := Lib.hid (HX6.out.below hb7 HX6.out.lt)
    have HTOP := Lib.hid (Nat.le_trans HT6.out hb7.size)
    have HB7 := Lib.hid (HB6.out.trans (hb7.mono HB6.out.size))
    have HO7 := Lib.hid (Go.Proofs.YteeficpjggimcaaW.PrintWords.own_move HO6.out (fun k hk => hb7.block k (World.ownsRow.lt HO6.out k hk).2))
    have HC7 := Lib.hid (And.intro (HC6.out.1.below hb7) (HC6.out.2.below hb7 HC6.out.2.lt))
    have HPW := Lib.hid (hrow.lower (Nat.zero_le _))
    clear hrow hb7 HPA HC6 HX6 HB6 HO6 c0'
    go_wp2_with fail
    have HLP := Lib.hid (show Lp w xb w4.heap.size ch [.slice Ap m1 cp, .slice A2 n2 c3, .slice Ak (min nk 700) ck] A2 n2 c3 _ R X bs (ys.map pr) w7 from ⟨HX7.out, HB7.out, HO7.out, HC7.out.1, HC7.out.2, by have := HGE.out; have := HXB.out; omega, HTOP.out⟩)
    have HLN := Lib.hid (show (ys.map pr).length ≤ 100 from by have := HYS.out.1; rw [List.length_map]; omega)
    have HBG := Lib.hid (show xb ≤ w4.heap.size from Nat.le_of_lt HGE.out)
    clear HX7 HB7 HO7 HC7 HGE HRD HRD4 HCK HP HT5 HT6 HTOP
    have hnk : min nk 700 ≤ ck := by omega
    generalize min nk 700 = nk' at *
    generalize w4.heap.size = B at *
    go_loopw [6, 5] (fun k v wr => ∃ (i : Nat) (l : List (Int × Int)) (R : Nat → Option RecO) (X : Nat → Option ScxO) (bs : List Nat), i ≤ n2 ∧ i ≤ 5 ∧ k = .int .i64 i ∧ Lp w xb B ch [.slice Ap m1 cp, .slice A2 n2 c3, .slice Ak nk' ck] A2 n2 c3 (((S.map Scr.s).take 70 |>.map SlV.cut).map SlV.val) R X bs l wr ∧ PRow wr 0 v l ∧ Srt l ∧ l.length ≤ 100 + 12 * i) (fun k _ _ => 5 - (intOf k).toNat)
    case atStart => exact ⟨0, ys.map pr, R, X, bs, Nat.zero_le _, by omega, rfl, HLP.out, HPW.out, HSR.out, HLN.out⟩
    case round =>
      clear HLP HPW HSR HLN
      obtain ⟨i, l, R, X, bs, hi, hi5, rfl, hlp, hpw, hsr, hln⟩ := hrel
      have HLP := Lib.hid hlp
      have HPW := Lib.hid hpw
      have HSR := Lib.hid hsr
      have HLN := Lib.hid hln
      have c1 := HLP.out.box.cell 1
      simp only [List.getElem?_cons_zero, List.getElem?_cons_succ] at c1
      clear hlp hpw hsr hln
      by_cases hlt : i < n2
      · by_cases h5i : i < 5
        · obtain ⟨ad, A, n, c, ops, e2, hcell, hnc, hno, hrd, hmx⟩ := script_at HLP.out.own HS.out.2 hlt
          subst e2
          have HRD := Lib.hid hrd
          have hd5 : decide ((i : Int) < 5) = true := decide_eq_true (by omega)
          have H5 := Lib.hid h5i
          clear h5i
          go_wp2_with fail
          go_loopw [7, 5] (fun k v wr => ∃ (j : Nat) (l : List (Int × Int)) (R : Nat → Option RecO) (X : Nat → Option ScxO) (bs : List Nat), j ≤ 12 ∧ k = .int .i64 j ∧ Lp w xb B ch [.slice Ap m1 cp, .slice (some ad) n2 c3, .slice Ak nk' ck] (some ad) n2 c3 (((S.map Scr.s).take 70 |>.map SlV.cut).map SlV.val) R X bs l wr ∧ PRow wr 0 v l ∧ Srt l ∧ l.length ≤ 100 + 12 * i + j) (fun k _ _ => 12 - (intOf k).toNat)
          case atStart => exact ⟨0, l, R, X, bs, by omega, rfl, HLP.out, HPW.out, HSR.out, HLN.out⟩
          case round =>
            clear HLP HPW HSR HLN c1 hcell HRD hnc hno hmx
            obtain ⟨j, l, R, X, bs, hj, rfl, hlp, hpw, hsr, hln⟩ := hrel
            have HLP := Lib.hid hlp
            have HPW := Lib.hid hpw
            have HSR := Lib.hid hsr
            have HLN := Lib.hid hln
            have HLL := Lib.hid (show l.length ≤ 1000000 by have := H5.out; omega)
            have c1 := HLP.out.box.cell 1
            simp only [List.getElem?_cons_zero, List.getElem?_cons_succ] at c1
            obtain ⟨ad', A, n, c, ops, e2, hcell, hnc, hno, hrd, hmx⟩ := script_at HLP.out.own HS.out.2 hlt
            obtain rfl := Option.some.inj e2
            have HRD := Lib.hid (Kd.C_below hrd HLP.out.below)
            clear hlp hpw hsr hln hrd e2
            by_cases hjn : j < n
            · by_cases hj12 : j < 12
              · obtain ⟨ao, f0, f1, f2, f3, eA, d0, d1, d2, d3⟩ := op_at HRD.out (show j < ops.length by omega)
                subst eA
                clear HRD
                by_cases hk1 : f0 = 1
                · subst hk1
                  have hal := (Below.refl wr.heap.size wr).alloc (Nat.le_refl _) (.cells #[.int .i64 1, .int .i64 f1, .int .i64 f2, .int .i64 f3] TOP)
                  have HLA := Lib.hid (HLP.out.go hal)
                  have HOA := Lib.hid (Blk.new wr TOP [.int .i64 1, .int .i64 f1, .int .i64 f2, .int .i64 f3])
                  have HWA := Lib.hid (show w.heap.size ≤ (wr.alloc (.cells #[.int .i64 1, .int .i64 f1, .int .i64 f2, .int .i64 f3] TOP)).heap.size from HLA.out.below.size)
                  have HST := Lib.hid (step15_1 f1 f2 f3 HLL.out HSR.out (HPW.out.below hal))
                  clear hal
                  have o0 := HOA.out.cell 0
                  have o1 := HOA.out.cell 1
                  have o2 := HOA.out.cell 2
                  have o3 := HOA.out.cell 3
                  simp only [List.getElem?_cons_zero, List.getElem?_cons_succ] at o0 o1 o2 o3
                  go_wp2_with fail
                  clear o0 o1 o2 o3 c1 hcell d0 d1 d2 d3 HLP HPW
                  generalize wr.alloc (.cells #[.int .i64 1, .int .i64 f1, .int .i64 f2, .int .i64 f3] TOP) = wa at *
                  generalize wr.heap.size = ob at *
                  refine HST.out.mono ?_
                  rintro e ws ⟨nv, rfl, hnv, hb⟩
                  have HLS := Lib.hid (HLA.out.go hb)
                  have HOS := Lib.hid (HOA.out.below hb HOA.out.lt)
                  have HNS := Lib.hid hnv
                  clear hnv hb HST HLA HOA HWA
                  generalize hok : (getV l f1).2 = ok_ at *
                  generalize hvl : (getV l f1).1 = vl_ at *
                  have hb1 := (Below.refl ws.heap.size ws).alloc (Nat.le_refl _) (.cells #[.bool ok_, .int .i64 0, .int .i64 vl_, .slice none 0 0] TRT)
                  have hb2 := hb1.alloc hb1.size (.cells #[.bool false, .int .i64 0, .int .i64 0, .slice none 0 0] TRT)
                  have hwb := Blk.new (ws.alloc (.cells #[.bool ok_, .int .i64 0, .int .i64 vl_, .slice none 0 0] TRT)) TRT [.bool false, .int .i64 0, .int .i64 0, .slice none 0 0]
                  rw [World.size_alloc] at hwb
                  have HLB := Lib.hid (HLS.out.go hb2)
                  have HOB := Lib.hid (HOS.out.below hb2 HOS.out.lt)
                  have HWB := Lib.hid ((Blk.new ws TRT [.bool ok_, .int .i64 0, .int .i64 vl_, .slice none 0 0]).alloc (.cells #[.bool false, .int .i64 0, .int .i64 0, .slice none 0 0] TRT))
                  have HRB := Lib.hid hwb
                  have HNB := Lib.hid (HNS.out.below hb2)
                  have HSB := Lib.hid (show w.heap.size ≤ ws.heap.size from HLS.out.below.size)
                  clear hb1 hb2 hwb HLS HNS
                  clear HOS
                  have o0 := HOB.out.cell 0
                  have o1 := HOB.out.cell 1
                  have o2 := HOB.out.cell 2
                  have o3 := HOB.out.cell 3
                  simp only [List.getElem?_cons_zero, List.getElem?_cons_succ] at o0 o1 o2 o3
                  have hch := chain_get B 0 ((ws.alloc (.cells #[.bool ok_, .int .i64 0, .int .i64 vl_, .slice none 0 0] TRT)).alloc (.cells #[.bool false, .int .i64 0, .int .i64 0, .slice none 0 0] TRT)) none [] R X bs l ch f1 HLB.out.chn (gnil _) (Nat.zero_le _) (by simp) HLL.out HLB.out.chb
                  rw [hok, hvl] at hch
                  have HCH := Lib.hid hch
                  clear hch
                  go_wp2_with fail
                  clear o0 o1 o2 o3
                  generalize ((ws.alloc (.cells #[.bool ok_, .int .i64 0, .int .i64 vl_, .slice none 0 0] TRT)).alloc (.cells #[.bool false, .int .i64 0, .int .i64 0, .slice none 0 0] TRT)) = wb at *
                  generalize hwb_ : ws.heap.size = b1_ at *
                  have HNE := Lib.hid (show b1_ ≠ b1_ + 1 by omega)
                  refine HCH.out.mono ?_
                  rintro e wc ⟨rfl, hst0, hch0⟩
                  have hst := ChStep.same hst0 hch0
                  obtain ⟨R', X', bs', hlp⟩ := HLB.out.op hst
                  have HLC := Lib.hid hlp
                  have HOC := Lib.hid (HLB.out.opBlk hst (.inr rfl) HOB.out)
                  have HWC := Lib.hid (HLB.out.opBlk hst (.inl rfl) HWB.out)
                  have HRC := Lib.hid (HLB.out.opBlk hst (.inl rfl) HRB.out)
                  have HNC := Lib.hid (HLB.out.opRow hst HNB.out)
                  clear hst hlp hst0 hch0 HCH HLB HOB HWB HRB HNB
                  have r0 := HRC.out.cell 0
                  have rz0 : wc.frozen? ⟨b1_ + 1, 0, none⟩ = false := HRC.out.free _ rfl
                  have r1 := HRC.out.cell 1
                  have rz1 : wc.frozen? ⟨b1_ + 1, 1, none⟩ = false := HRC.out.free _ rfl
                  have r2 := HRC.out.cell 2
                  have rz2 : wc.frozen? ⟨b1_ + 1, 2, none⟩ = false := HRC.out.free _ rfl
                  have r3 := HRC.out.cell 3
                  have rz3 : wc.frozen? ⟨b1_ + 1, 3, none⟩ = false := HRC.out.free _ rfl
                  simp only [List.getElem?_cons_zero, List.getElem?_cons_succ] at r0 r1 r2 r3
                  have hfr : Fr wc ((((wc.setCell ⟨b1_ + 1, 0, none⟩ (.bool ok_)).setCell ⟨b1_ + 1, 1, none⟩ (.int .i64 0)).setCell ⟨b1_ + 1, 2, none⟩ (.int .i64 vl_)).setCell ⟨b1_ + 1, 3, none⟩ (.slice none 0 0)) (fun k => k = b1_ + 1) := ((((Fr.refl wc (fun k => k = b1_ + 1)).setCell ⟨b1_ + 1, 0, none⟩ (.bool ok_) (fun _ => rfl)).setCell ⟨b1_ + 1, 1, none⟩ (.int .i64 0) (fun _ => rfl)).setCell ⟨b1_ + 1, 2, none⟩ (.int .i64 vl_) (fun _ => rfl)).setCell ⟨b1_ + 1, 3, none⟩ (.slice none 0 0) (fun _ => rfl)
                  have hrb : Blk ((((wc.setCell ⟨b1_ + 1, 0, none⟩ (.bool ok_)).setCell ⟨b1_ + 1, 1, none⟩ (.int .i64 0)).setCell ⟨b1_ + 1, 2, none⟩ (.int .i64 vl_)).setCell ⟨b1_ + 1, 3, none⟩ (.slice none 0 0)) (b1_ + 1) TRT [.bool ok_, .int .i64 0, .int .i64 vl_, .slice none 0 0] := (((HRC.out.set 0 (.bool ok_)).set 1 (.int .i64 0)).set 2 (.int .i64 vl_)).set 3 (.slice none 0 0)
                  have hwb2 : Blk ((((wc.setCell ⟨b1_ + 1, 0, none⟩ (.bool ok_)).setCell ⟨b1_ + 1, 1, none⟩ (.int .i64 0)).setCell ⟨b1_ + 1, 2, none⟩ (.int .i64 vl_)).setCell ⟨b1_ + 1, 3, none⟩ (.slice none 0 0)) b1_ TRT [.bool ok_, .int .i64 0, .int .i64 vl_, .slice none 0 0] := (((HWC.out.other _ _ HNE.out).other _ _ HNE.out).other _ _ HNE.out).other _ _ HNE.out
                  have HRD_ := Lib.hid hrb
                  have HWD := Lib.hid hwb2
                  have HLD := Lib.hid (HLC.out.set hfr (fun _ h => h) HRC.out (by have := HSB.out; omega))
                  have HND := Lib.hid (HNC.out.set hfr (fun _ h => h) HRC.out)
                  have HOD := Lib.hid (hfr.blk HOC.out (fun hk => by
                    have h9 := HRC.out
                    have h8 := HOC.out
                    rw [hk] at h8
                    exact absurd (h8.inj h9).1 (by decide)))
                  clear hfr hrb hwb2 HWC HLC HNC HOC
                  have o0 := HOD.out.cell 0
                  have o1 := HOD.out.cell 1
                  have o2 := HOD.out.cell 2
                  have o3 := HOD.out.cell 3
                  simp only [List.getElem?_cons_zero, List.getElem?_cons_succ] at o0 o1 o2 o3
                  have s0 := HRD_.out.cell 0
                  have t0 := HWD.out.cell 0
                  have s1 := HRD_.out.cell 1
                  have t1 := HWD.out.cell 1
                  have s2 := HRD_.out.cell 2
                  have t2 := HWD.out.cell 2
                  have s3 := HRD_.out.cell 3
                  have t3 := HWD.out.cell 3
                  simp only [List.getElem?_cons_zero, List.getElem?_cons_succ] at s0 s1 s2 s3 t0 t1 t2 t3
                  have HSM := Lib.hid (sameret_none ((((wc.setCell ⟨b1_ + 1, 0, none⟩ (.bool ok_)).setCell ⟨b1_ + 1, 1, none⟩ (.int .i64 0)).setCell ⟨b1_ + 1, 2, none⟩ (.int .i64 vl_)).setCell ⟨b1_ + 1, 3, none⟩ (.slice none 0 0)) ok_ vl_)
                  go_wp2_with fail
                  clear r0 r1 r2 r3 rz0 rz1 rz2 rz3 HRC o0 o1 o2 o3 s0 s1 s2 s3 t0 t1 t2 t3
                  generalize ((((wc.setCell ⟨b1_ + 1, 0, none⟩ (.bool ok_)).setCell ⟨b1_ + 1, 1, none⟩ (.int .i64 0)).setCell ⟨b1_ + 1, 2, none⟩ (.int .i64 vl_)).setCell ⟨b1_ + 1, 3, none⟩ (.slice none 0 0)) = wd at *
                  refine HSM.out.mono ?_
                  rintro e we ⟨rfl, hb⟩
                  have HLE := Lib.hid (HLD.out.go hb)
                  have HNE_ := Lib.hid (HND.out.below hb)
                  have HOE := Lib.hid (HOD.out.below hb HOD.out.lt)
                  have HWE := Lib.hid (HWD.out.below hb HWD.out.lt)
                  clear hb HLD HND HOD HRD_ HWD HSM
                  have o0 := HOE.out.cell 0
                  have o1 := HOE.out.cell 1
                  have o2 := HOE.out.cell 2
                  have o3 := HOE.out.cell 3
                  simp only [List.getElem?_cons_zero, List.getElem?_cons_succ] at o0 o1 o2 o3
                  have hch := chain_do_get B 0 we none [] R' X' bs' l ch f1 f2 f3 HLE.out.chn (gnil _) (Nat.zero_le _) HLE.out.top (by simp) HLL.out HLE.out.chb
                  rw [hok, hvl] at hch
                  have HCH := Lib.hid hch
                  clear hch
                  go_wp2_with fail
                  clear o0 o1 o2 o3
                  refine HCH.out.mono ?_
                  rintro e wf ⟨rfl, hst⟩
                  obtain ⟨R2, X2, bs2, hlp⟩ := HLE.out.op hst
                  have HWF := Lib.hid (HLE.out.opBlk hst (.inl rfl) HWE.out)
                  have HNF := Lib.hid (HLE.out.opRow hst HNE_.out)
                  have hal := (Below.refl wf.heap.size wf).alloc (Nat.le_refl _) (.cells #[.bool ok_, .int .i64 0, .int .i64 vl_, .slice none 0 0] TRT)
                  have HLF := Lib.hid (hlp.go hal)
                  have HNG := Lib.hid (HNF.out.below hal)
                  have HWG := Lib.hid (HWF.out.below hal HWF.out.lt)
                  have HDG := Lib.hid (Blk.new wf TRT [.bool ok_, .int .i64 0, .int .i64 vl_, .slice none 0 0])
                  clear hal hst hlp HCH HLE HNE_ HOE HWE HWF HNF
                  have s0 := HDG.out.cell 0
                  have t0 := HWG.out.cell 0
                  have s1 := HDG.out.cell 1
                  have t1 := HWG.out.cell 1
                  have s2 := HDG.out.cell 2
                  have t2 := HWG.out.cell 2
                  have s3 := HDG.out.cell 3
                  have t3 := HWG.out.cell 3
                  simp only [List.getElem?_cons_zero, List.getElem?_cons_succ] at s0 s1 s2 s3 t0 t1 t2 t3
                  have HSM := Lib.hid (sameret_none (wf.alloc (.cells #[.bool ok_, .int .i64 0, .int .i64 vl_, .slice none 0 0] TRT)) ok_ vl_)
                  go_wp2_with fail
                  clear s0 s1 s2 s3 t0 t1 t2 t3
                  generalize (wf.alloc (.cells #[.bool ok_, .int .i64 0, .int .i64 vl_, .slice none 0 0] TRT)) = wg at *
                  refine HSM.out.mono ?_
                  rintro e wh ⟨rfl, hb⟩
                  have HLH := Lib.hid (HLF.out.go hb)
                  have HNH := Lib.hid (HNG.out.below hb)
                  clear hb HLF HNG HWG HDG HSM
                  go_wp2
                  go_roundw
                  case rel =>

                    exact ⟨j + 1, _, R2, X2, bs2, by omega, by go_num, HLH.out, HNH.out, HSR.out, by have := HLN.out; omega⟩
                  case measure => simp [intOf]; omega
                by_cases hk2 : f0 = 2
                · subst hk2
                  have hal := (Below.refl wr.heap.size wr).alloc (Nat.le_refl _) (.cells #[.int .i64 2, .int .i64 f1, .int .i64 f2, .int .i64 f3] TOP)
                  have HLA := Lib.hid (HLP.out.go hal)
                  have HOA := Lib.hid (Blk.new wr TOP [.int .i64 2, .int .i64 f1, .int .i64 f2, .int .i64 f3])
                  have HWA := Lib.hid (show w.heap.size ≤ (wr.alloc (.cells #[.int .i64 2, .int .i64 f1, .int .i64 f2, .int .i64 f3] TOP)).heap.size from HLA.out.below.size)
                  have HST := Lib.hid (step15_2 f1 f2 f3 HLL.out HSR.out (HPW.out.below hal))
                  clear hal
                  have o0 := HOA.out.cell 0
                  have o1 := HOA.out.cell 1
                  have o2 := HOA.out.cell 2
                  have o3 := HOA.out.cell 3
                  simp only [List.getElem?_cons_zero, List.getElem?_cons_succ] at o0 o1 o2 o3
                  go_wp2_with fail
                  clear o0 o1 o2 o3 c1 hcell d0 d1 d2 d3 HLP HPW
                  generalize wr.alloc (.cells #[.int .i64 2, .int .i64 f1, .int .i64 f2, .int .i64 f3] TOP) = wa at *
                  generalize wr.heap.size = ob at *
                  refine HST.out.mono ?_
                  rintro e ws ⟨nv, rfl, hnv, hb⟩
                  have HLS := Lib.hid (HLA.out.go hb)
                  have HOS := Lib.hid (HOA.out.below hb HOA.out.lt)
                  have HNS := Lib.hid hnv
                  clear hnv hb HST HLA HOA HWA
                  generalize hok : (getV l f1).2 = ok_ at *
                  generalize hvl : (getV l f1).1 = vl_ at *
                  have hb1 := (Below.refl ws.heap.size ws).alloc (Nat.le_refl _) (.cells #[.bool ok_, .int .i64 0, .int .i64 vl_, .slice none 0 0] TRT)
                  have hb2 := hb1.alloc hb1.size (.cells #[.bool false, .int .i64 0, .int .i64 0, .slice none 0 0] TRT)
                  have hwb := Blk.new (ws.alloc (.cells #[.bool ok_, .int .i64 0, .int .i64 vl_, .slice none 0 0] TRT)) TRT [.bool false, .int .i64 0, .int .i64 0, .slice none 0 0]
                  rw [World.size_alloc] at hwb
                  have HLB := Lib.hid (HLS.out.go hb2)
                  have HOB := Lib.hid (HOS.out.below hb2 HOS.out.lt)
                  have HWB := Lib.hid ((Blk.new ws TRT [.bool ok_, .int .i64 0, .int .i64 vl_, .slice none 0 0]).alloc (.cells #[.bool false, .int .i64 0, .int .i64 0, .slice none 0 0] TRT))
                  have HRB := Lib.hid hwb
                  have HNB := Lib.hid (HNS.out.below hb2)
                  have HSB := Lib.hid (show w.heap.size ≤ ws.heap.size from HLS.out.below.size)
                  clear hb1 hb2 hwb HLS HNS
                  clear HOS
                  have o0 := HOB.out.cell 0
                  have o1 := HOB.out.cell 1
                  have o2 := HOB.out.cell 2
                  have o3 := HOB.out.cell 3
                  simp only [List.getElem?_cons_zero, List.getElem?_cons_succ] at o0 o1 o2 o3
                  have hch := chain_put B 0 ((ws.alloc (.cells #[.bool ok_, .int .i64 0, .int .i64 vl_, .slice none 0 0] TRT)).alloc (.cells #[.bool false, .int .i64 0, .int .i64 0, .slice none 0 0] TRT)) none [] R X bs l ch f1 f2 HLB.out.chn (gnil _) (Nat.zero_le _) HLB.out.top (by simp) HLL.out HLB.out.chb
                  rw [hok, hvl] at hch
                  have HCH := Lib.hid hch
                  clear hch
                  go_wp2_with fail
                  clear o0 o1 o2 o3
                  generalize ((ws.alloc (.cells #[.bool ok_, .int .i64 0, .int .i64 vl_, .slice none 0 0] TRT)).alloc (.cells #[.bool false, .int .i64 0, .int .i64 0, .slice none 0 0] TRT)) = wb at *
                  generalize hwb_ : ws.heap.size = b1_ at *
                  have HNE := Lib.hid (show b1_ ≠ b1_ + 1 by omega)
                  refine HCH.out.mono ?_
                  rintro e wc ⟨rfl, hst⟩
                  obtain ⟨R', X', bs', hlp⟩ := HLB.out.op hst
                  have HLC := Lib.hid hlp
                  have HOC := Lib.hid (HLB.out.opBlk hst (.inr rfl) HOB.out)
                  have HWC := Lib.hid (HLB.out.opBlk hst (.inl rfl) HWB.out)
                  have HRC := Lib.hid (HLB.out.opBlk hst (.inl rfl) HRB.out)
                  have HNC := Lib.hid (HLB.out.opRow hst HNB.out)
                  clear hst hlp HCH HLB HOB HWB HRB HNB
                  have r0 := HRC.out.cell 0
                  have rz0 : wc.frozen? ⟨b1_ + 1, 0, none⟩ = false := HRC.out.free _ rfl
                  have r1 := HRC.out.cell 1
                  have rz1 : wc.frozen? ⟨b1_ + 1, 1, none⟩ = false := HRC.out.free _ rfl
                  have r2 := HRC.out.cell 2
                  have rz2 : wc.frozen? ⟨b1_ + 1, 2, none⟩ = false := HRC.out.free _ rfl
                  have r3 := HRC.out.cell 3
                  have rz3 : wc.frozen? ⟨b1_ + 1, 3, none⟩ = false := HRC.out.free _ rfl
                  simp only [List.getElem?_cons_zero, List.getElem?_cons_succ] at r0 r1 r2 r3
                  have hfr : Fr wc ((((wc.setCell ⟨b1_ + 1, 0, none⟩ (.bool ok_)).setCell ⟨b1_ + 1, 1, none⟩ (.int .i64 0)).setCell ⟨b1_ + 1, 2, none⟩ (.int .i64 vl_)).setCell ⟨b1_ + 1, 3, none⟩ (.slice none 0 0)) (fun k => k = b1_ + 1) := ((((Fr.refl wc (fun k => k = b1_ + 1)).setCell ⟨b1_ + 1, 0, none⟩ (.bool ok_) (fun _ => rfl)).setCell ⟨b1_ + 1, 1, none⟩ (.int .i64 0) (fun _ => rfl)).setCell ⟨b1_ + 1, 2, none⟩ (.int .i64 vl_) (fun _ => rfl)).setCell ⟨b1_ + 1, 3, none⟩ (.slice none 0 0) (fun _ => rfl)
                  have hrb : Blk ((((wc.setCell ⟨b1_ + 1, 0, none⟩ (.bool ok_)).setCell ⟨b1_ + 1, 1, none⟩ (.int .i64 0)).setCell ⟨b1_ + 1, 2, none⟩ (.int .i64 vl_)).setCell ⟨b1_ + 1, 3, none⟩ (.slice none 0 0)) (b1_ + 1) TRT [.bool ok_, .int .i64 0, .int .i64 vl_, .slice none 0 0] := (((HRC.out.set 0 (.bool ok_)).set 1 (.int .i64 0)).set 2 (.int .i64 vl_)).set 3 (.slice none 0 0)
                  have hwb2 : Blk ((((wc.setCell ⟨b1_ + 1, 0, none⟩ (.bool ok_)).setCell ⟨b1_ + 1, 1, none⟩ (.int .i64 0)).setCell ⟨b1_ + 1, 2, none⟩ (.int .i64 vl_)).setCell ⟨b1_ + 1, 3, none⟩ (.slice none 0 0)) b1_ TRT [.bool ok_, .int .i64 0, .int .i64 vl_, .slice none 0 0] := (((HWC.out.other _ _ HNE.out).other _ _ HNE.out).other _ _ HNE.out).other _ _ HNE.out
                  have HRD_ := Lib.hid hrb
                  have HWD := Lib.hid hwb2
                  have HLD := Lib.hid (HLC.out.set hfr (fun _ h => h) HRC.out (by have := HSB.out; omega))
                  have HND := Lib.hid (HNC.out.set hfr (fun _ h => h) HRC.out)
                  have HOD := Lib.hid (hfr.blk HOC.out (fun hk => by
                    have h9 := HRC.out
                    have h8 := HOC.out
                    rw [hk] at h8
                    exact absurd (h8.inj h9).1 (by decide)))
                  clear hfr hrb hwb2 HWC HLC HNC HOC
                  have o0 := HOD.out.cell 0
                  have o1 := HOD.out.cell 1
                  have o2 := HOD.out.cell 2
                  have o3 := HOD.out.cell 3
                  simp only [List.getElem?_cons_zero, List.getElem?_cons_succ] at o0 o1 o2 o3
                  have s0 := HRD_.out.cell 0
                  have t0 := HWD.out.cell 0
                  have s1 := HRD_.out.cell 1
                  have t1 := HWD.out.cell 1
                  have s2 := HRD_.out.cell 2
                  have t2 := HWD.out.cell 2
                  have s3 := HRD_.out.cell 3
                  have t3 := HWD.out.cell 3
                  simp only [List.getElem?_cons_zero, List.getElem?_cons_succ] at s0 s1 s2 s3 t0 t1 t2 t3
                  have HSM := Lib.hid (sameret_none ((((wc.setCell ⟨b1_ + 1, 0, none⟩ (.bool ok_)).setCell ⟨b1_ + 1, 1, none⟩ (.int .i64 0)).setCell ⟨b1_ + 1, 2, none⟩ (.int .i64 vl_)).setCell ⟨b1_ + 1, 3, none⟩ (.slice none 0 0)) ok_ vl_)
                  go_wp2_with fail
                  clear r0 r1 r2 r3 rz0 rz1 rz2 rz3 HRC o0 o1 o2 o3 s0 s1 s2 s3 t0 t1 t2 t3
                  generalize ((((wc.setCell ⟨b1_ + 1, 0, none⟩ (.bool ok_)).setCell ⟨b1_ + 1, 1, none⟩ (.int .i64 0)).setCell ⟨b1_ + 1, 2, none⟩ (.int .i64 vl_)).setCell ⟨b1_ + 1, 3, none⟩ (.slice none 0 0)) = wd at *
                  refine HSM.out.mono ?_
                  rintro e we ⟨rfl, hb⟩
                  have HLE := Lib.hid (HLD.out.go hb)
                  have HNE_ := Lib.hid (HND.out.below hb)
                  have HOE := Lib.hid (HOD.out.below hb HOD.out.lt)
                  have HWE := Lib.hid (HWD.out.below hb HWD.out.lt)
                  clear hb HLD HND HOD HRD_ HWD HSM
                  have o0 := HOE.out.cell 0
                  have o1 := HOE.out.cell 1
                  have o2 := HOE.out.cell 2
                  have o3 := HOE.out.cell 3
                  simp only [List.getElem?_cons_zero, List.getElem?_cons_succ] at o0 o1 o2 o3
                  go_wp2
                  go_roundw
                  case rel =>

                    exact ⟨j + 1, _, R', X', bs', by omega, by go_num, HLE.out, HNE_.out, put_srt HSR.out, by have := HLN.out; have := put_len l (key := f1) (val := f2); omega⟩
                  case measure => simp [intOf]; omega
                by_cases hk3 : f0 = 3
                · subst hk3
                  have hal := (Below.refl wr.heap.size wr).alloc (Nat.le_refl _) (.cells #[.int .i64 3, .int .i64 f1, .int .i64 f2, .int .i64 f3] TOP)
                  have HLA := Lib.hid (HLP.out.go hal)
                  have HOA := Lib.hid (Blk.new wr TOP [.int .i64 3, .int .i64 f1, .int .i64 f2, .int .i64 f3])
                  have HWA := Lib.hid (show w.heap.size ≤ (wr.alloc (.cells #[.int .i64 3, .int .i64 f1, .int .i64 f2, .int .i64 f3] TOP)).heap.size from HLA.out.below.size)
                  have HST := Lib.hid (step15_3 f1 f2 f3 HLL.out HSR.out (HPW.out.below hal))
                  clear hal
                  have o0 := HOA.out.cell 0
                  have o1 := HOA.out.cell 1
                  have o2 := HOA.out.cell 2
                  have o3 := HOA.out.cell 3
                  simp only [List.getElem?_cons_zero, List.getElem?_cons_succ] at o0 o1 o2 o3
                  go_wp2_with fail
                  clear o0 o1 o2 o3 c1 hcell d0 d1 d2 d3 HLP HPW
                  generalize wr.alloc (.cells #[.int .i64 3, .int .i64 f1, .int .i64 f2, .int .i64 f3] TOP) = wa at *
                  generalize wr.heap.size = ob at *
                  refine HST.out.mono ?_
                  rintro e ws ⟨nv, rfl, hnv, hb⟩
                  have HLS := Lib.hid (HLA.out.go hb)
                  have HOS := Lib.hid (HOA.out.below hb HOA.out.lt)
                  have HNS := Lib.hid hnv
                  clear hnv hb HST HLA HOA HWA
                  generalize hok : (!(getV l f1).2) = ok_ at *
                  generalize hvl : (getV l f1).1 = vl_ at *
                  have hb1 := (Below.refl ws.heap.size ws).alloc (Nat.le_refl _) (.cells #[.bool ok_, .int .i64 0, .int .i64 vl_, .slice none 0 0] TRT)
                  have hb2 := hb1.alloc hb1.size (.cells #[.bool false, .int .i64 0, .int .i64 0, .slice none 0 0] TRT)
                  have hwb := Blk.new (ws.alloc (.cells #[.bool ok_, .int .i64 0, .int .i64 vl_, .slice none 0 0] TRT)) TRT [.bool false, .int .i64 0, .int .i64 0, .slice none 0 0]
                  rw [World.size_alloc] at hwb
                  have HLB := Lib.hid (HLS.out.go hb2)
                  have HOB := Lib.hid (HOS.out.below hb2 HOS.out.lt)
                  have HWB := Lib.hid ((Blk.new ws TRT [.bool ok_, .int .i64 0, .int .i64 vl_, .slice none 0 0]).alloc (.cells #[.bool false, .int .i64 0, .int .i64 0, .slice none 0 0] TRT))
                  have HRB := Lib.hid hwb
                  have HNB := Lib.hid (HNS.out.below hb2)
                  have HSB := Lib.hid (show w.heap.size ≤ ws.heap.size from HLS.out.below.size)
                  clear hb1 hb2 hwb HLS HNS
                  clear HOS
                  have o0 := HOB.out.cell 0
                  have o1 := HOB.out.cell 1
                  have o2 := HOB.out.cell 2
                  have o3 := HOB.out.cell 3
                  simp only [List.getElem?_cons_zero, List.getElem?_cons_succ] at o0 o1 o2 o3
                  have hch := chain_add B 0 ((ws.alloc (.cells #[.bool ok_, .int .i64 0, .int .i64 vl_, .slice none 0 0] TRT)).alloc (.cells #[.bool false, .int .i64 0, .int .i64 0, .slice none 0 0] TRT)) none [] R X bs l ch f1 f2 HLB.out.chn (gnil _) (Nat.zero_le _) HLB.out.top (by simp) HLL.out HLB.out.chb
                  rw [hvl] at hch
                  rw [hok] at hch
                  have HCH := Lib.hid hch
                  clear hch
                  go_wp2_with fail
                  clear o0 o1 o2 o3
                  generalize ((ws.alloc (.cells #[.bool ok_, .int .i64 0, .int .i64 vl_, .slice none 0 0] TRT)).alloc (.cells #[.bool false, .int .i64 0, .int .i64 0, .slice none 0 0] TRT)) = wb at *
                  generalize hwb_ : ws.heap.size = b1_ at *
                  have HNE := Lib.hid (show b1_ ≠ b1_ + 1 by omega)
                  refine HCH.out.mono ?_
                  rintro e wc ⟨rfl, hst⟩
                  obtain ⟨R', X', bs', hlp⟩ := HLB.out.op hst
                  have HLC := Lib.hid hlp
                  have HOC := Lib.hid (HLB.out.opBlk hst (.inr rfl) HOB.out)
                  have HWC := Lib.hid (HLB.out.opBlk hst (.inl rfl) HWB.out)
                  have HRC := Lib.hid (HLB.out.opBlk hst (.inl rfl) HRB.out)
                  have HNC := Lib.hid (HLB.out.opRow hst HNB.out)
                  clear hst hlp HCH HLB HOB HWB HRB HNB
                  have r0 := HRC.out.cell 0
                  have rz0 : wc.frozen? ⟨b1_ + 1, 0, none⟩ = false := HRC.out.free _ rfl
                  have r1 := HRC.out.cell 1
                  have rz1 : wc.frozen? ⟨b1_ + 1, 1, none⟩ = false := HRC.out.free _ rfl
                  have r2 := HRC.out.cell 2
                  have rz2 : wc.frozen? ⟨b1_ + 1, 2, none⟩ = false := HRC.out.free _ rfl
                  have r3 := HRC.out.cell 3
                  have rz3 : wc.frozen? ⟨b1_ + 1, 3, none⟩ = false := HRC.out.free _ rfl
                  simp only [List.getElem?_cons_zero, List.getElem?_cons_succ] at r0 r1 r2 r3
                  have hfr : Fr wc ((((wc.setCell ⟨b1_ + 1, 0, none⟩ (.bool ok_)).setCell ⟨b1_ + 1, 1, none⟩ (.int .i64 0)).setCell ⟨b1_ + 1, 2, none⟩ (.int .i64 vl_)).setCell ⟨b1_ + 1, 3, none⟩ (.slice none 0 0)) (fun k => k = b1_ + 1) := ((((Fr.refl wc (fun k => k = b1_ + 1)).setCell ⟨b1_ + 1, 0, none⟩ (.bool ok_) (fun _ => rfl)).setCell ⟨b1_ + 1, 1, none⟩ (.int .i64 0) (fun _ => rfl)).setCell ⟨b1_ + 1, 2, none⟩ (.int .i64 vl_) (fun _ => rfl)).setCell ⟨b1_ + 1, 3, none⟩ (.slice none 0 0) (fun _ => rfl)
                  have hrb : Blk ((((wc.setCell ⟨b1_ + 1, 0, none⟩ (.bool ok_)).setCell ⟨b1_ + 1, 1, none⟩ (.int .i64 0)).setCell ⟨b1_ + 1, 2, none⟩ (.int .i64 vl_)).setCell ⟨b1_ + 1, 3, none⟩ (.slice none 0 0)) (b1_ + 1) TRT [.bool ok_, .int .i64 0, .int .i64 vl_, .slice none 0 0] := (((HRC.out.set 0 (.bool ok_)).set 1 (.int .i64 0)).set 2 (.int .i64 vl_)).set 3 (.slice none 0 0)
                  have hwb2 : Blk ((((wc.setCell ⟨b1_ + 1, 0, none⟩ (.bool ok_)).setCell ⟨b1_ + 1, 1, none⟩ (.int .i64 0)).setCell ⟨b1_ + 1, 2, none⟩ (.int .i64 vl_)).setCell ⟨b1_ + 1, 3, none⟩ (.slice none 0 0)) b1_ TRT [.bool ok_, .int .i64 0, .int .i64 vl_, .slice none 0 0] := (((HWC.out.other _ _ HNE.out).other _ _ HNE.out).other _ _ HNE.out).other _ _ HNE.out
                  have HRD_ := Lib.hid hrb
                  have HWD := Lib.hid hwb2
                  have HLD := Lib.hid (HLC.out.set hfr (fun _ h => h) HRC.out (by have := HSB.out; omega))
                  have HND := Lib.hid (HNC.out.set hfr (fun _ h => h) HRC.out)
                  have HOD := Lib.hid (hfr.blk HOC.out (fun hk => by
                    have h9 := HRC.out
                    have h8 := HOC.out
                    rw [hk] at h8
                    exact absurd (h8.inj h9).1 (by decide)))
                  clear hfr hrb hwb2 HWC HLC HNC HOC
                  have o0 := HOD.out.cell 0
                  have o1 := HOD.out.cell 1
                  have o2 := HOD.out.cell 2
                  have o3 := HOD.out.cell 3
                  simp only [List.getElem?_cons_zero, List.getElem?_cons_succ] at o0 o1 o2 o3
                  have s0 := HRD_.out.cell 0
                  have t0 := HWD.out.cell 0
                  have s1 := HRD_.out.cell 1
                  have t1 := HWD.out.cell 1
                  have s2 := HRD_.out.cell 2
                  have t2 := HWD.out.cell 2
                  have s3 := HRD_.out.cell 3
                  have t3 := HWD.out.cell 3
                  simp only [List.getElem?_cons_zero, List.getElem?_cons_succ] at s0 s1 s2 s3 t0 t1 t2 t3
                  have HSM := Lib.hid (sameret_none ((((wc.setCell ⟨b1_ + 1, 0, none⟩ (.bool ok_)).setCell ⟨b1_ + 1, 1, none⟩ (.int .i64 0)).setCell ⟨b1_ + 1, 2, none⟩ (.int .i64 vl_)).setCell ⟨b1_ + 1, 3, none⟩ (.slice none 0 0)) ok_ vl_)
                  go_wp2_with fail
                  clear r0 r1 r2 r3 rz0 rz1 rz2 rz3 HRC o0 o1 o2 o3 s0 s1 s2 s3 t0 t1 t2 t3
                  generalize ((((wc.setCell ⟨b1_ + 1, 0, none⟩ (.bool ok_)).setCell ⟨b1_ + 1, 1, none⟩ (.int .i64 0)).setCell ⟨b1_ + 1, 2, none⟩ (.int .i64 vl_)).setCell ⟨b1_ + 1, 3, none⟩ (.slice none 0 0)) = wd at *
                  refine HSM.out.mono ?_
                  rintro e we ⟨rfl, hb⟩
                  have HLE := Lib.hid (HLD.out.go hb)
                  have HNE_ := Lib.hid (HND.out.below hb)
                  have HOE := Lib.hid (HOD.out.below hb HOD.out.lt)
                  have HWE := Lib.hid (HWD.out.below hb HWD.out.lt)
                  clear hb HLD HND HOD HRD_ HWD HSM
                  have o0 := HOE.out.cell 0
                  have o1 := HOE.out.cell 1
                  have o2 := HOE.out.cell 2
                  have o3 := HOE.out.cell 3
                  simp only [List.getElem?_cons_zero, List.getElem?_cons_succ] at o0 o1 o2 o3
                  go_wp2
                  go_roundw
                  case rel =>

                    exact ⟨j + 1, _, R', X', bs', by omega, by go_num, HLE.out, HNE_.out, add_srt HSR.out, by have := HLN.out; have := add_len l (key := f1) (val := f2); omega⟩
                  case measure => simp [intOf]; omega
                by_cases hk4 : f0 = 4
                · subst hk4
                  have hal := (Below.refl wr.heap.size wr).alloc (Nat.le_refl _) (.cells #[.int .i64 4, .int .i64 f1, .int .i64 f2, .int .i64 f3] TOP)
                  have HLA := Lib.hid (HLP.out.go hal)
                  have HOA := Lib.hid (Blk.new wr TOP [.int .i64 4, .int .i64 f1, .int .i64 f2, .int .i64 f3])
                  have HWA := Lib.hid (show w.heap.size ≤ (wr.alloc (.cells #[.int .i64 4, .int .i64 f1, .int .i64 f2, .int .i64 f3] TOP)).heap.size from HLA.out.below.size)
                  have HST := Lib.hid (step15_4 f1 f2 f3 HLL.out HSR.out (HPW.out.below hal))
                  clear hal
                  have o0 := HOA.out.cell 0
                  have o1 := HOA.out.cell 1
                  have o2 := HOA.out.cell 2
                  have o3 := HOA.out.cell 3
                  simp only [List.getElem?_cons_zero, List.getElem?_cons_succ] at o0 o1 o2 o3
                  go_wp2_with fail
                  clear o0 o1 o2 o3 c1 hcell d0 d1 d2 d3 HLP HPW
                  generalize wr.alloc (.cells #[.int .i64 4, .int .i64 f1, .int .i64 f2, .int .i64 f3] TOP) = wa at *
                  generalize wr.heap.size = ob at *
                  refine HST.out.mono ?_
                  rintro e ws ⟨nv, rfl, hnv, hb⟩
                  have HLS := Lib.hid (HLA.out.go hb)
                  have HOS := Lib.hid (HOA.out.below hb HOA.out.lt)
                  have HNS := Lib.hid hnv
                  clear hnv hb HST HLA HOA HWA
                  generalize hok : (getV l f1).2 = ok_ at *
                  generalize hvl : (getV l f1).1 = vl_ at *
                  have hb1 := (Below.refl ws.heap.size ws).alloc (Nat.le_refl _) (.cells #[.bool ok_, .int .i64 0, .int .i64 vl_, .slice none 0 0] TRT)
                  have hb2 := hb1.alloc hb1.size (.cells #[.bool false, .int .i64 0, .int .i64 0, .slice none 0 0] TRT)
                  have hwb := Blk.new (ws.alloc (.cells #[.bool ok_, .int .i64 0, .int .i64 vl_, .slice none 0 0] TRT)) TRT [.bool false, .int .i64 0, .int .i64 0, .slice none 0 0]
                  rw [World.size_alloc] at hwb
                  have HLB := Lib.hid (HLS.out.go hb2)
                  have HOB := Lib.hid (HOS.out.below hb2 HOS.out.lt)
                  have HWB := Lib.hid ((Blk.new ws TRT [.bool ok_, .int .i64 0, .int .i64 vl_, .slice none 0 0]).alloc (.cells #[.bool false, .int .i64 0, .int .i64 0, .slice none 0 0] TRT))
                  have HRB := Lib.hid hwb
                  have HNB := Lib.hid (HNS.out.below hb2)
                  have HSB := Lib.hid (show w.heap.size ≤ ws.heap.size from HLS.out.below.size)
                  clear hb1 hb2 hwb HLS HNS
                  clear HOS
                  have o0 := HOB.out.cell 0
                  have o1 := HOB.out.cell 1
                  have o2 := HOB.out.cell 2
                  have o3 := HOB.out.cell 3
                  simp only [List.getElem?_cons_zero, List.getElem?_cons_succ] at o0 o1 o2 o3
                  have hch := chain_delete B 0 ((ws.alloc (.cells #[.bool ok_, .int .i64 0, .int .i64 vl_, .slice none 0 0] TRT)).alloc (.cells #[.bool false, .int .i64 0, .int .i64 0, .slice none 0 0] TRT)) none [] R X bs l ch f1 HLB.out.chn (gnil _) (Nat.zero_le _) HLB.out.top (by simp) HLL.out HLB.out.chb
                  rw [hok, hvl] at hch
                  have HCH := Lib.hid hch
                  clear hch
                  go_wp2_with fail
                  clear o0 o1 o2 o3
                  generalize ((ws.alloc (.cells #[.bool ok_, .int .i64 0, .int .i64 vl_, .slice none 0 0] TRT)).alloc (.cells #[.bool false, .int .i64 0, .int .i64 0, .slice none 0 0] TRT)) = wb at *
                  generalize hwb_ : ws.heap.size = b1_ at *
                  have HNE := Lib.hid (show b1_ ≠ b1_ + 1 by omega)
                  refine HCH.out.mono ?_
                  rintro e wc ⟨rfl, hst⟩
                  obtain ⟨R', X', bs', hlp⟩ := HLB.out.op hst
                  have HLC := Lib.hid hlp
                  have HOC := Lib.hid (HLB.out.opBlk hst (.inr rfl) HOB.out)
                  have HWC := Lib.hid (HLB.out.opBlk hst (.inl rfl) HWB.out)
                  have HRC := Lib.hid (HLB.out.opBlk hst (.inl rfl) HRB.out)
                  have HNC := Lib.hid (HLB.out.opRow hst HNB.out)
                  clear hst hlp HCH HLB HOB HWB HRB HNB
                  have r0 := HRC.out.cell 0
                  have rz0 : wc.frozen? ⟨b1_ + 1, 0, none⟩ = false := HRC.out.free _ rfl
                  have r1 := HRC.out.cell 1
                  have rz1 : wc.frozen? ⟨b1_ + 1, 1, none⟩ = false := HRC.out.free _ rfl
                  have r2 := HRC.out.cell 2
                  have rz2 : wc.frozen? ⟨b1_ + 1, 2, none⟩ = false := HRC.out.free _ rfl
                  have r3 := HRC.out.cell 3
                  have rz3 : wc.frozen? ⟨b1_ + 1, 3, none⟩ = false := HRC.out.free _ rfl
                  simp only [List.getElem?_cons_zero, List.getElem?_cons_succ] at r0 r1 r2 r3
                  have hfr : Fr wc ((((wc.setCell ⟨b1_ + 1, 0, none⟩ (.bool ok_)).setCell ⟨b1_ + 1, 1, none⟩ (.int .i64 0)).setCell ⟨b1_ + 1, 2, none⟩ (.int .i64 vl_)).setCell ⟨b1_ + 1, 3, none⟩ (.slice none 0 0)) (fun k => k = b1_ + 1) := ((((Fr.refl wc (fun k => k = b1_ + 1)).setCell ⟨b1_ + 1, 0, none⟩ (.bool ok_) (fun _ => rfl)).setCell ⟨b1_ + 1, 1, none⟩ (.int .i64 0) (fun _ => rfl)).setCell ⟨b1_ + 1, 2, none⟩ (.int .i64 vl_) (fun _ => rfl)).setCell ⟨b1_ + 1, 3, none⟩ (.slice none 0 0) (fun _ => rfl)
                  have hrb : Blk ((((wc.setCell ⟨b1_ + 1, 0, none⟩ (.bool ok_)).setCell ⟨b1_ + 1, 1, none⟩ (.int .i64 0)).setCell ⟨b1_ + 1, 2, none⟩ (.int .i64 vl_)).setCell ⟨b1_ + 1, 3, none⟩ (.slice none 0 0)) (b1_ + 1) TRT [.bool ok_, .int .i64 0, .int .i64 vl_, .slice none 0 0] := (((HRC.out.set 0 (.bool ok_)).set 1 (.int .i64 0)).set 2 (.int .i64 vl_)).set 3 (.slice none 0 0)
                  have hwb2 : Blk ((((wc.setCell ⟨b1_ + 1, 0, none⟩ (.bool ok_)).setCell ⟨b1_ + 1, 1, none⟩ (.int .i64 0)).setCell ⟨b1_ + 1, 2, none⟩ (.int .i64 vl_)).setCell ⟨b1_ + 1, 3, none⟩ (.slice none 0 0)) b1_ TRT [.bool ok_, .int .i64 0, .int .i64 vl_, .slice none 0 0] := (((HWC.out.other _ _ HNE.out).other _ _ HNE.out).other _ _ HNE.out).other _ _ HNE.out
                  have HRD_ := Lib.hid hrb
                  have HWD := Lib.hid hwb2
                  have HLD := Lib.hid (HLC.out.set hfr (fun _ h => h) HRC.out (by have := HSB.out; omega))
                  have HND := Lib.hid (HNC.out.set hfr (fun _ h => h) HRC.out)
                  have HOD := Lib.hid (hfr.blk HOC.out (fun hk => by
                    have h9 := HRC.out
                    have h8 := HOC.out
                    rw [hk] at h8
                    exact absurd (h8.inj h9).1 (by decide)))
                  clear hfr hrb hwb2 HWC HLC HNC HOC
                  have o0 := HOD.out.cell 0
                  have o1 := HOD.out.cell 1
                  have o2 := HOD.out.cell 2
                  have o3 := HOD.out.cell 3
                  simp only [List.getElem?_cons_zero, List.getElem?_cons_succ] at o0 o1 o2 o3
                  have s0 := HRD_.out.cell 0
                  have t0 := HWD.out.cell 0
                  have s1 := HRD_.out.cell 1
                  have t1 := HWD.out.cell 1
                  have s2 := HRD_.out.cell 2
                  have t2 := HWD.out.cell 2
                  have s3 := HRD_.out.cell 3
                  have t3 := HWD.out.cell 3
                  simp only [List.getElem?_cons_zero, List.getElem?_cons_succ] at s0 s1 s2 s3 t0 t1 t2 t3
                  have HSM := Lib.hid (sameret_none ((((wc.setCell ⟨b1_ + 1, 0, none⟩ (.bool ok_)).setCell ⟨b1_ + 1, 1, none⟩ (.int .i64 0)).setCell ⟨b1_ + 1, 2, none⟩ (.int .i64 vl_)).setCell ⟨b1_ + 1, 3, none⟩ (.slice none 0 0)) ok_ vl_)
                  go_wp2_with fail
                  clear r0 r1 r2 r3 rz0 rz1 rz2 rz3 HRC o0 o1 o2 o3 s0 s1 s2 s3 t0 t1 t2 t3
                  generalize ((((wc.setCell ⟨b1_ + 1, 0, none⟩ (.bool ok_)).setCell ⟨b1_ + 1, 1, none⟩ (.int .i64 0)).setCell ⟨b1_ + 1, 2, none⟩ (.int .i64 vl_)).setCell ⟨b1_ + 1, 3, none⟩ (.slice none 0 0)) = wd at *
                  refine HSM.out.mono ?_
                  rintro e we ⟨rfl, hb⟩
                  have HLE := Lib.hid (HLD.out.go hb)
                  have HNE_ := Lib.hid (HND.out.below hb)
                  have HOE := Lib.hid (HOD.out.below hb HOD.out.lt)
                  have HWE := Lib.hid (HWD.out.below hb HWD.out.lt)
                  clear hb HLD HND HOD HRD_ HWD HSM
                  have o0 := HOE.out.cell 0
                  have o1 := HOE.out.cell 1
                  have o2 := HOE.out.cell 2
                  have o3 := HOE.out.cell 3
                  simp only [List.getElem?_cons_zero, List.getElem?_cons_succ] at o0 o1 o2 o3
                  go_wp2
                  go_roundw
                  case rel =>

                    exact ⟨j + 1, _, R', X', bs', by omega, by go_num, HLE.out, HNE_.out, del_srt HSR.out, by have := HLN.out; have := del_len l (key := f1); omega⟩
                  case measure => simp [intOf]; omega
                by_cases hk9 : f0 = 9
                · subst hk9
                  have hal := (Below.refl wr.heap.size wr).alloc (Nat.le_refl _) (.cells #[.int .i64 9, .int .i64 f1, .int .i64 f2, .int .i64 f3] TOP)
                  have HLA := Lib.hid (HLP.out.go hal)
                  have HOA := Lib.hid (Blk.new wr TOP [.int .i64 9, .int .i64 f1, .int .i64 f2, .int .i64 f3])
                  have HWA := Lib.hid (show w.heap.size ≤ (wr.alloc (.cells #[.int .i64 9, .int .i64 f1, .int .i64 f2, .int .i64 f3] TOP)).heap.size from HLA.out.below.size)
                  have HST := Lib.hid (step15_9 f1 f2 f3 HLL.out HSR.out (HPW.out.below hal))
                  clear hal
                  have o0 := HOA.out.cell 0
                  have o1 := HOA.out.cell 1
                  have o2 := HOA.out.cell 2
                  have o3 := HOA.out.cell 3
                  simp only [List.getElem?_cons_zero, List.getElem?_cons_succ] at o0 o1 o2 o3
                  go_wp2_with fail
                  clear o0 o1 o2 o3 c1 hcell d0 d1 d2 d3 HLP HPW
                  generalize wr.alloc (.cells #[.int .i64 9, .int .i64 f1, .int .i64 f2, .int .i64 f3] TOP) = wa at *
                  generalize wr.heap.size = ob at *
                  refine HST.out.mono ?_
                  rintro e ws ⟨nv, pv_, rfl, hnv, hpv, hb⟩
                  obtain ⟨A9, c9, e9, -, -⟩ := hpv.rd
                  rw [List.length_map] at e9
                  subst e9
                  have HLS := Lib.hid (HLA.out.go hb)
                  have HOS := Lib.hid (HOA.out.below hb HOA.out.lt)
                  have HNS := Lib.hid hnv
                  have HPS := Lib.hid hpv
                  clear hnv hpv hb HST HLA HOA HWA
                  have hb1 := (Below.refl ws.heap.size ws).alloc (Nat.le_refl _) (.cells #[.bool true, .int .i64 0, .int .i64 0, .slice A9 (rangeL l f1 f3).length c9] TRT)
                  have hb2 := hb1.alloc hb1.size (.cells #[.bool false, .int .i64 0, .int .i64 0, .slice none 0 0] TRT)
                  have hwb := Blk.new (ws.alloc (.cells #[.bool true, .int .i64 0, .int .i64 0, .slice A9 (rangeL l f1 f3).length c9] TRT)) TRT [.bool false, .int .i64 0, .int .i64 0, .slice none 0 0]
                  rw [World.size_alloc] at hwb
                  have HLB := Lib.hid (HLS.out.go hb2)
                  have HOB := Lib.hid (HOS.out.below hb2 HOS.out.lt)
                  have HWB := Lib.hid ((Blk.new ws TRT [.bool true, .int .i64 0, .int .i64 0, .slice A9 (rangeL l f1 f3).length c9]).alloc (.cells #[.bool false, .int .i64 0, .int .i64 0, .slice none 0 0] TRT))
                  have HRB := Lib.hid hwb
                  have HNB := Lib.hid (HNS.out.below hb2)
                  have HSB := Lib.hid (show w.heap.size ≤ ws.heap.size from HLS.out.below.size)
                  have HPB := Lib.hid (HPS.out.below hb2)
                  clear hb1 hb2 hwb HLS HNS HPS
                  clear HOS
                  have o0 := HOB.out.cell 0
                  have o1 := HOB.out.cell 1
                  have o2 := HOB.out.cell 2
                  have o3 := HOB.out.cell 3
                  simp only [List.getElem?_cons_zero, List.getElem?_cons_succ] at o0 o1 o2 o3
                  have hch := chain_range B 0 ((ws.alloc (.cells #[.bool true, .int .i64 0, .int .i64 0, .slice A9 (rangeL l f1 f3).length c9] TRT)).alloc (.cells #[.bool false, .int .i64 0, .int .i64 0, .slice none 0 0] TRT)) none [] R X bs l ch f1 f3 HLB.out.chn (gnil _) (Nat.zero_le _) (by simp) HLL.out HLB.out.chb
                  have HCH := Lib.hid hch
                  clear hch
                  go_wp2_with fail
                  clear o0 o1 o2 o3
                  generalize ((ws.alloc (.cells #[.bool true, .int .i64 0, .int .i64 0, .slice A9 (rangeL l f1 f3).length c9] TRT)).alloc (.cells #[.bool false, .int .i64 0, .int .i64 0, .slice none 0 0] TRT)) = wb at *
                  generalize hwb_ : ws.heap.size = b1_ at *
                  have HNE := Lib.hid (show b1_ ≠ b1_ + 1 by omega)
                  refine HCH.out.mono ?_
                  rintro e wc ⟨rv, rfl, hown, hst0, hch0⟩
                  obtain ⟨A8, c8, e8, -, -⟩ := (PRow.of_own hown).rd
                  rw [List.length_map] at e8
                  subst e8
                  have hst := ChStep.same hst0 hch0
                  obtain ⟨R', X', bs', hlp⟩ := HLB.out.op hst
                  have HLC := Lib.hid hlp
                  have HOC := Lib.hid (HLB.out.opBlk hst (.inr rfl) HOB.out)
                  have HWC := Lib.hid (HLB.out.opBlk hst (.inl rfl) HWB.out)
                  have HRC := Lib.hid (HLB.out.opBlk hst (.inl rfl) HRB.out)
                  have HNC := Lib.hid (HLB.out.opRow hst HNB.out)
                  have HPC := Lib.hid (HLB.out.opRow hst HPB.out)
                  have HQC := Lib.hid (PRow.of_own hown)
                  clear hst hlp hst0 hch0 HCH HLB HOB HWB HRB HNB hown HPB
                  have r0 := HRC.out.cell 0
                  have rz0 : wc.frozen? ⟨b1_ + 1, 0, none⟩ = false := HRC.out.free _ rfl
                  have r1 := HRC.out.cell 1
                  have rz1 : wc.frozen? ⟨b1_ + 1, 1, none⟩ = false := HRC.out.free _ rfl
                  have r2 := HRC.out.cell 2
                  have rz2 : wc.frozen? ⟨b1_ + 1, 2, none⟩ = false := HRC.out.free _ rfl
                  have r3 := HRC.out.cell 3
                  have rz3 : wc.frozen? ⟨b1_ + 1, 3, none⟩ = false := HRC.out.free _ rfl
                  simp only [List.getElem?_cons_zero, List.getElem?_cons_succ] at r0 r1 r2 r3
                  have hfr : Fr wc ((((wc.setCell ⟨b1_ + 1, 0, none⟩ (.bool true)).setCell ⟨b1_ + 1, 1, none⟩ (.int .i64 0)).setCell ⟨b1_ + 1, 2, none⟩ (.int .i64 0)).setCell ⟨b1_ + 1, 3, none⟩ (.slice A8 (rangeL l f1 f3).length c8)) (fun k => k = b1_ + 1) := ((((Fr.refl wc (fun k => k = b1_ + 1)).setCell ⟨b1_ + 1, 0, none⟩ (.bool true) (fun _ => rfl)).setCell ⟨b1_ + 1, 1, none⟩ (.int .i64 0) (fun _ => rfl)).setCell ⟨b1_ + 1, 2, none⟩ (.int .i64 0) (fun _ => rfl)).setCell ⟨b1_ + 1, 3, none⟩ (.slice A8 (rangeL l f1 f3).length c8) (fun _ => rfl)
                  have hrb : Blk ((((wc.setCell ⟨b1_ + 1, 0, none⟩ (.bool true)).setCell ⟨b1_ + 1, 1, none⟩ (.int .i64 0)).setCell ⟨b1_ + 1, 2, none⟩ (.int .i64 0)).setCell ⟨b1_ + 1, 3, none⟩ (.slice A8 (rangeL l f1 f3).length c8)) (b1_ + 1) TRT [.bool true, .int .i64 0, .int .i64 0, .slice A8 (rangeL l f1 f3).length c8] := (((HRC.out.set 0 (.bool true)).set 1 (.int .i64 0)).set 2 (.int .i64 0)).set 3 (.slice A8 (rangeL l f1 f3).length c8)
                  have hwb2 : Blk ((((wc.setCell ⟨b1_ + 1, 0, none⟩ (.bool true)).setCell ⟨b1_ + 1, 1, none⟩ (.int .i64 0)).setCell ⟨b1_ + 1, 2, none⟩ (.int .i64 0)).setCell ⟨b1_ + 1, 3, none⟩ (.slice A8 (rangeL l f1 f3).length c8)) b1_ TRT [.bool true, .int .i64 0, .int .i64 0, .slice A9 (rangeL l f1 f3).length c9] := (((HWC.out.other _ _ HNE.out).other _ _ HNE.out).other _ _ HNE.out).other _ _ HNE.out
                  have HRD_ := Lib.hid hrb
                  have HWD := Lib.hid hwb2
                  have HLD := Lib.hid (HLC.out.set hfr (fun _ h => h) HRC.out (by have := HSB.out; omega))
                  have HND := Lib.hid (HNC.out.set hfr (fun _ h => h) HRC.out)
                  have HOD := Lib.hid (hfr.blk HOC.out (fun hk => by
                    have h9 := HRC.out
                    have h8 := HOC.out
                    rw [hk] at h8
                    exact absurd (h8.inj h9).1 (by decide)))
                  have HPD := Lib.hid (HPC.out.set hfr (fun _ h => h) HRC.out)
                  have HQD := Lib.hid (HQC.out.set hfr (fun _ h => h) HRC.out)
                  clear hfr hrb hwb2 HWC HLC HNC HOC HPC HQC
                  have o0 := HOD.out.cell 0
                  have o1 := HOD.out.cell 1
                  have o2 := HOD.out.cell 2
                  have o3 := HOD.out.cell 3
                  simp only [List.getElem?_cons_zero, List.getElem?_cons_succ] at o0 o1 o2 o3
                  have s0 := HRD_.out.cell 0
                  have t0 := HWD.out.cell 0
                  have s1 := HRD_.out.cell 1
                  have t1 := HWD.out.cell 1
                  have s2 := HRD_.out.cell 2
                  have t2 := HWD.out.cell 2
                  have s3 := HRD_.out.cell 3
                  have t3 := HWD.out.cell 3
                  simp only [List.getElem?_cons_zero, List.getElem?_cons_succ] at s0 s1 s2 s3 t0 t1 t2 t3
                  have HSM := Lib.hid (sameret_rows (by exact Nat.le_trans (range_len _ _ _) HLL.out) HQD.out HPD.out)
                  go_wp2_with fail
                  clear r0 r1 r2 r3 rz0 rz1 rz2 rz3 HRC o0 o1 o2 o3 s0 s1 s2 s3 t0 t1 t2 t3
                  generalize ((((wc.setCell ⟨b1_ + 1, 0, none⟩ (.bool true)).setCell ⟨b1_ + 1, 1, none⟩ (.int .i64 0)).setCell ⟨b1_ + 1, 2, none⟩ (.int .i64 0)).setCell ⟨b1_ + 1, 3, none⟩ (.slice A8 (rangeL l f1 f3).length c8)) = wd at *
                  refine HSM.out.mono ?_
                  rintro e we ⟨rfl, hb⟩
                  have HLE := Lib.hid (HLD.out.go hb)
                  have HNE_ := Lib.hid (HND.out.below hb)
                  have HOE := Lib.hid (HOD.out.below hb HOD.out.lt)
                  have HWE := Lib.hid (HWD.out.below hb HWD.out.lt)
                  have HPE := Lib.hid (HPD.out.below hb)
                  clear hb HLD HND HOD HRD_ HWD HSM HPD HQD
                  have o0 := HOE.out.cell 0
                  have o1 := HOE.out.cell 1
                  have o2 := HOE.out.cell 2
                  have o3 := HOE.out.cell 3
                  simp only [List.getElem?_cons_zero, List.getElem?_cons_succ] at o0 o1 o2 o3
                  have hch := chain_do_range B 0 we none [] R' X' bs' l ch f1 f2 f3 HLE.out.chn (gnil _) (Nat.zero_le _) HLE.out.top (by simp) HLL.out HLE.out.chb
                  have HCH := Lib.hid hch
                  clear hch
                  go_wp2_with fail
                  clear o0 o1 o2 o3
                  refine HCH.out.mono ?_
                  rintro e wf ⟨dv, rfl, hst, hown⟩
                  obtain ⟨A7, c7, e7, -, -⟩ := (PRow.of_own hown).rd
                  rw [List.length_map] at e7
                  subst e7
                  obtain ⟨R2, X2, bs2, hlp⟩ := HLE.out.op hst
                  have HWF := Lib.hid (HLE.out.opBlk hst (.inl rfl) HWE.out)
                  have HNF := Lib.hid (HLE.out.opRow hst HNE_.out)
                  have HPF := Lib.hid (HLE.out.opRow hst HPE.out)
                  have HQF := Lib.hid (PRow.of_own hown)
                  have hal := (Below.refl wf.heap.size wf).alloc (Nat.le_refl _) (.cells #[.bool true, .int .i64 0, .int .i64 0, .slice A7 (rangeL l f1 f3).length c7] TRT)
                  have HLF := Lib.hid (hlp.go hal)
                  have HNG := Lib.hid (HNF.out.below hal)
                  have HWG := Lib.hid (HWF.out.below hal HWF.out.lt)
                  have HDG := Lib.hid (Blk.new wf TRT [.bool true, .int .i64 0, .int .i64 0, .slice A7 (rangeL l f1 f3).length c7])
                  have HPG := Lib.hid (HPF.out.below hal)
                  have HQG := Lib.hid (HQF.out.below hal)
                  clear hal hst hlp HCH HLE HNE_ HOE HWE HWF HNF hown HPE HPF HQF
                  have s0 := HDG.out.cell 0
                  have t0 := HWG.out.cell 0
                  have s1 := HDG.out.cell 1
                  have t1 := HWG.out.cell 1
                  have s2 := HDG.out.cell 2
                  have t2 := HWG.out.cell 2
                  have s3 := HDG.out.cell 3
                  have t3 := HWG.out.cell 3
                  simp only [List.getElem?_cons_zero, List.getElem?_cons_succ] at s0 s1 s2 s3 t0 t1 t2 t3
                  have HSM := Lib.hid (sameret_rows (by exact Nat.le_trans (range_len _ _ _) HLL.out) HQG.out HPG.out)
                  go_wp2_with fail
                  clear s0 s1 s2 s3 t0 t1 t2 t3
                  generalize (wf.alloc (.cells #[.bool true, .int .i64 0, .int .i64 0, .slice A7 (rangeL l f1 f3).length c7] TRT)) = wg at *
                  refine HSM.out.mono ?_
                  rintro e wh ⟨rfl, hb⟩
                  have HLH := Lib.hid (HLF.out.go hb)
                  have HNH := Lib.hid (HNG.out.below hb)
                  clear hb HLF HNG HWG HDG HSM HPG HQG
                  go_wp2
                  go_roundw
                  case rel =>

                    exact ⟨j + 1, _, R2, X2, bs2, by omega, by go_num, HLH.out, HNH.out, HSR.out, by have := HLN.out; omega⟩
                  case measure => simp [intOf]; omega
                replace hk1 : (f0 == 1) = false := by simpa using hk1
                replace hk2 : (f0 == 2) = false := by simpa using hk2
                replace hk3 : (f0 == 3) = false := by simpa using hk3
                replace hk4 : (f0 == 4) = false := by simpa using hk4
                replace hk9 : (f0 == 9) = false := by simpa using hk9
                have hal := (Below.refl wr.heap.size wr).alloc (Nat.le_refl _) (.cells #[.int .i64 f0, .int .i64 f1, .int .i64 f2, .int .i64 f3] TOP)
                have HLA := Lib.hid (HLP.out.go hal)
                have HOA := Lib.hid (Blk.new wr TOP [.int .i64 f0, .int .i64 f1, .int .i64 f2, .int .i64 f3])
                have HWA := Lib.hid (show w.heap.size ≤ (wr.alloc (.cells #[.int .i64 f0, .int .i64 f1, .int .i64 f2, .int .i64 f3] TOP)).heap.size from HLA.out.below.size)
                have HST := Lib.hid (step15_bad f0 f1 f2 f3 hk1 hk2 hk3 hk4 hk9 HLL.out (HPW.out.below hal))
                have HPA := Lib.hid (HPW.out.below hal)
                clear hal
                have o0 := HOA.out.cell 0
                have o1 := HOA.out.cell 1
                have o2 := HOA.out.cell 2
                have o3 := HOA.out.cell 3
                simp only [List.getElem?_cons_zero, List.getElem?_cons_succ] at o0 o1 o2 o3
                go_wp2_with fail
                clear o0 o1 o2 o3 c1 hcell d0 d1 d2 d3 HLP HPW
                generalize wr.alloc (.cells #[.int .i64 f0, .int .i64 f1, .int .i64 f2, .int .i64 f3] TOP) = wa at *
                generalize wr.heap.size = ob at *
                refine HST.out.mono ?_
                rintro e ws ⟨nv, x0, x1, x2, rfl, hb⟩
                have HLS := Lib.hid (HLA.out.go hb)
                have HOS := Lib.hid (HOA.out.below hb HOA.out.lt)
                have HNS := Lib.hid (HPA.out.below hb)
                clear hb HST HLA HOA HPA HWA
                have hb1 := (Below.refl ws.heap.size ws).alloc (Nat.le_refl _) (.cells #[.bool x0, .int .i64 x1, .int .i64 x2, .slice none 0 0] TRT)
                have hb2 := hb1.alloc hb1.size (.cells #[.bool false, .int .i64 0, .int .i64 0, .slice none 0 0] TRT)
                have hwb := Blk.new (ws.alloc (.cells #[.bool x0, .int .i64 x1, .int .i64 x2, .slice none 0 0] TRT)) TRT [.bool false, .int .i64 0, .int .i64 0, .slice none 0 0]
                rw [World.size_alloc] at hwb
                have HLB := Lib.hid (HLS.out.go hb2)
                have HOB := Lib.hid (HOS.out.below hb2 HOS.out.lt)
                have HWB := Lib.hid ((Blk.new ws TRT [.bool x0, .int .i64 x1, .int .i64 x2, .slice none 0 0]).alloc (.cells #[.bool false, .int .i64 0, .int .i64 0, .slice none 0 0] TRT))
                have HRB := Lib.hid hwb
                have HNB := Lib.hid (HNS.out.below hb2)
                have HSB := Lib.hid (show w.heap.size ≤ ws.heap.size from HLS.out.below.size)
                clear hb1 hb2 hwb HLS HNS
                clear HOS
                have o0 := HOB.out.cell 0
                have o1 := HOB.out.cell 1
                have o2 := HOB.out.cell 2
                have o3 := HOB.out.cell 3
                simp only [List.getElem?_cons_zero, List.getElem?_cons_succ] at o0 o1 o2 o3
                have hch := chain_do_bad ((ws.alloc (.cells #[.bool x0, .int .i64 x1, .int .i64 x2, .slice none 0 0] TRT)).alloc (.cells #[.bool false, .int .i64 0, .int .i64 0, .slice none 0 0] TRT)) ch f0 f1 f2 f3 hk1 hk2 hk3 hk4 hk9
                have HCH := Lib.hid hch
                clear hch
                go_wp2_with fail
                clear o0 o1 o2 o3
                generalize ((ws.alloc (.cells #[.bool x0, .int .i64 x1, .int .i64 x2, .slice none 0 0] TRT)).alloc (.cells #[.bool false, .int .i64 0, .int .i64 0, .slice none 0 0] TRT)) = wb at *
                generalize hwb_ : ws.heap.size = b1_ at *
                have HNE := Lib.hid (show b1_ ≠ b1_ + 1 by omega)
                refine HCH.out.mono ?_
                rintro e wc ⟨rfl, hb⟩
                have hb1 := (Below.refl wc.heap.size wc).alloc (Nat.le_refl _) (.cells #[.bool false, .int .i64 0, .int .i64 0, .slice none 0 0] TRT)
                have HLC := Lib.hid ((HLB.out.go hb).go hb1)
                have HNC := Lib.hid ((HNB.out.below hb).below hb1)
                have HDC := Lib.hid (Blk.new wc TRT [.bool false, .int .i64 0, .int .i64 0, .slice none 0 0])
                have HSM := Lib.hid (sameret_none (wc.alloc (.cells #[.bool false, .int .i64 0, .int .i64 0, .slice none 0 0] TRT)) false 0)
                clear hb hb1 HCH HLB HOB HWB HRB HNB
                have s0 := HDC.out.cell 0
                have s1 := HDC.out.cell 1
                have s2 := HDC.out.cell 2
                have s3 := HDC.out.cell 3
                simp only [List.getElem?_cons_zero, List.getElem?_cons_succ] at s0 s1 s2 s3
                go_wp2_with fail
                clear s0 s1 s2 s3
                generalize wc.alloc (.cells #[.bool false, .int .i64 0, .int .i64 0, .slice none 0 0] TRT) = wd at *
                refine HSM.out.mono ?_
                rintro e we ⟨rfl, hb⟩
                have HLE := Lib.hid (HLC.out.go hb)
                have HNE_ := Lib.hid (HNC.out.below hb)
                clear hb HLC HNC HDC HSM
                go_wp2
                go_roundw
                case rel => exact ⟨j + 1, l, R, X, bs, by omega, by go_num, HLE.out, HNE_.out, HSR.out, by have := HLN.out; omega⟩
                case measure => simp [intOf]; omega
              · have hje : j = 12 := by omega
                subst hje
                clear HRD
                go_wp2
                go_roundw
                case rel => exact ⟨i + 1, l, R, X, bs, by omega, by have := H5.out; omega, by go_num, HLP.out, HPW.out, HSR.out, by have := HLN.out; omega⟩
                case measure => have := H5.out; simp [intOf]; omega
            · clear HRD
              go_wp2
              go_roundw
              case rel => exact ⟨i + 1, l, R, X, bs, by omega, by have := H5.out; omega, by go_num, HLP.out, HPW.out, HSR.out, by have := HLN.out; omega⟩
              case measure => have := H5.out; simp [intOf]; omega
        · have hi9 : i = 5 := by omega
          subst hi9
          have hpa := chain_pairs B wr R X bs l ch HLP.out.chn (by have := HLN.out; omega) HLP.out.chb
          have HPA := Lib.hid hpa
          clear hpa
          go_wp2_with fail
          refine HPA.out.mono ?_
          rintro e wp ⟨pv_, rfl, hown, hb⟩
          have HSM := Lib.hid (same_rows (by have := HLN.out; omega) (PRow.of_own hown) (HPW.out.below hb))
          have HBP := Lib.hid (HLP.out.below.trans (hb.mono HLP.out.below.size))
          clear hown hb
          go_wp2_with fail
          refine HSM.out.mono ?_
          rintro e wq ⟨rfl, hb⟩
          have HFIN := Lib.hid (HQ'.out _ wq ⟨rfl, by rw [← HXB.out]; exact HBP.out.trans (hb.mono HBP.out.size)⟩)
          clear hb
          go_wp2
          exact HFIN.out
      · have hi9 : i = n2 := by omega
        subst hi9
        have hpa := chain_pairs B wr R X bs l ch HLP.out.chn (by have := HLN.out; omega) HLP.out.chb
        have HPA := Lib.hid hpa
        clear hpa
        go_wp2_with fail
        refine HPA.out.mono ?_
        rintro e wp ⟨pv_, rfl, hown, hb⟩
        have HSM := Lib.hid (same_rows (by have := HLN.out; omega) (PRow.of_own hown) (HPW.out.below hb))
        have HBP := Lib.hid (HLP.out.below.trans (hb.mono HLP.out.below.size))
        clear hown hb
        go_wp2_with fail
        refine HSM.out.mono ?_
        rintro e wq ⟨rfl, hb⟩
        have HFIN := Lib.hid (HQ'.out _ wq ⟨rfl, by rw [← HXB.out]; exact HBP.out.trans (hb.mono HBP.out.size)⟩)
        clear hb
        go_wp2
        exact HFIN.out
  · have hnb := chain_new_bad w4 A4 c4 ys (by have := HYS.out.1; omega) HRD4.out.1 HRD4.out.2 hrise
    rw [HYS.out.1] at hnb
    have HNB := Lib.hid hnb
    have HCK := Lib.hid (show chkP ys = 11 from if_neg hrise)
    clear hnb hrise
    go_wp2_with fail
    refine HNB.out.mono ?_
    rintro e w5 ⟨rfl, hb5⟩
    have HX5 := Lib.hid (HX4.out.below hb5 HX4.out.lt)
    have HB5 := Lib.hid (HB4.out.trans (hb5.mono HB4.out.size))
    have hck := ref06_check w5 Ap cp ys (by have := HYS.out.1; omega) (by rw [HYS.out.1]; exact Kd.C_below HRD.out HB5.out) (by have := HYS.out.1; omega)
    rw [HYS.out.1, HCK.out] at hck
    have HC := Lib.hid hck
    have c0 := HX5.out.cell 0
    simp only [List.getElem?_cons_zero] at c0
    clear hb5 hck HNB
    go_wp2_with fail
    refine HC.out.mono ?_
    rintro e w6 ⟨rfl, hb6⟩
    have HFIN := Lib.hid (HQ'.out _ w6 ⟨rfl, by rw [← HXB.out]; exact HB5.out.trans (hb6.mono HB5.out.size)⟩)
    clear hb6
    go_wp2
    exact HFIN.out
end Go.Proofs.Yteeficpjggimcaa
