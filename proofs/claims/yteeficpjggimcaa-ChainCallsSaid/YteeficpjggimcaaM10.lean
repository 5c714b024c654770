/- Joined texts: ChainZ ChainAA Tape ChainAB ChainAC. -/
import Derived.Test.YteeficpjggimcaaM1
import Derived.Test.YteeficpjggimcaaM3
import Derived.Test.YteeficpjggimcaaM8

/- larchref06: Check; Same, SameRet of like ones. -/
namespace Go.Proofs.Yteeficpjggimcaa
open Go.RowKit Go.Proofs.YteeficpjggimcaaW.PrintWords Go.Proofs.YteeficpjggimcaaW.PrintLast Go.Proofs.Yteeficpjggimcaa.PChainCalls
set_option linter.unusedVariables false
set_option linter.unusedSimpArgs false

theorem same_l0 (xs : List SP) (hl : xs.length ≤ 1000000000000) : ∀ (m j : Nat), xs.length ≤ j + m → larchref06_Same.l0 (m + 1) xs xs j = some true := fun m => by
  induction m with
  | zero =>
    intro j h2
    unfold larchref06_Same.l0
    rw [if_neg (by omega)]
  | succ m ih =>
    intro j h2
    unfold larchref06_Same.l0
    by_cases hj : j < xs.length
    · rw [if_pos (show (j : Int) < xs.length by omega), if_pos (show (0 : Int) ≤ j by omega), if_pos (show (j : Int) < xs.length by omega), wrap64_id (by omega) (by omega), show ((j : Int) + 1) = ((j + 1 : Nat) : Int) by omega, ih (j + 1) (by omega)]
      simp
    · rw [if_neg (by omega)]
theorem same_f (xs : List SP) (hl : xs.length ≤ 1000000000000) : larchref06_Same.f (xs.length + 1) xs xs = some true := by
  unfold larchref06_Same.f
  rw [if_pos rfl]
  exact same_l0 xs hl xs.length 0 (by omega)
theorem ref06_same (w : World) (A A' : Option Addr) (c c' : Nat) (l : List (Int × Int)) (hl : l.length ≤ 1000000000) (h : PRd w A l) (hc : l.length ≤ c) (h' : PRd w A' l) (hc' : l.length ≤ c') :
    Calls Try.prog 17 #[.slice A (l.map sp).length c, .slice A' (l.map sp).length c'] w fun e w' => e = .returned (.bool true) ∧ Below w.heap.size w w' := by
  refine (larchref06_Same.calls _ A c (l.map sp) A' c' (l.map sp) true w h (by simpa using hc) h' (by simpa using hc') (same_f (l.map sp) (by simp; omega))).mono ?_
  rintro e w1 ⟨rfl, mm, hw⟩
  exact ⟨rfl, by rw [hw]; exact pw_below_drewN (Below.refl _ _) mm⟩
theorem ref06_sameret (w : World) (ok : Bool) (k v : Int) (A A' : Option Addr) (c c' : Nat) (l : List (Int × Int)) (hl : l.length ≤ 1000000000) (h : PRd w A l) (hc : l.length ≤ c) (h' : PRd w A' l) (hc' : l.length ≤ c') :
    Calls Try.prog 16 #[.agg #[.bool ok, .int .i64 k, .int .i64 v, .slice A (l.map sp).length c], .agg #[.bool ok, .int .i64 k, .int .i64 v, .slice A' (l.map sp).length c']] w fun e w' => e = .returned (.bool true) ∧ Below w.heap.size w w' := by
  refine larchref06_SameRet.calls ((l.map sp).length + 1) ok k v A c (l.map sp) ok k v A' c' (l.map sp) true w h (by simpa using hc) h' (by simpa using hc') ?_
  unfold larchref06_SameRet.f
  rw [if_pos (by simp), if_pos rfl, if_pos rfl, same_f (l.map sp) (by simp; omega)]
  rfl
theorem rise_step {xs : List SP} {j : Nat} (hj : j < xs.length) (h1 : 1 ≤ j) (hk : (xs[j - 1]'(by omega)).f0 < xs[j].f0) : RiseFrom xs (j + 1) ↔ RiseFrom xs j := by
  refine ⟨fun h i hi hji => ?_, fun h i hi hji => h i hi (by omega)⟩
  by_cases e : j = i + 1
  · subst e
    simpa using hk
  · exact h i hi (by omega)
set_option maxHeartbeats 4000000 in
set_option maxRecDepth 100000 in
theorem ref06_check (w : World) (A : Option Addr) (c : Nat) (xs : List SP) (hl : xs.length ≤ 1000000) (h : Kd.C k56 w A xs.length xs) (hc : xs.length ≤ c) :
    Calls Try.prog 8 #[.slice A xs.length c] w fun e w' => e = .returned (.int .i64 (chkP xs)) ∧ Below w.heap.size w w' := by
  refine calls_hide fun Q HQ => ?_
  have HQ' := Lib.hid HQ
  have HP := Lib.hid h
  clear HQ h
  go_enter Try.func8, Try.ntmps8
  go_wp2
  go_loopw [3] (fun k wr => ∃ j : Nat, 1 ≤ j ∧ j ≤ xs.length + 1 ∧ k = .int .i64 j ∧ (RiseFrom xs j ↔ RiseFrom xs 1) ∧ Below w.heap.size w wr) (fun k _ => xs.length + 1 - (intOf k).toNat)
  case atStart => exact ⟨1, Nat.le_refl _, by omega, rfl, Iff.rfl, Below.refl _ _⟩
  case round =>
    obtain ⟨j, hj1, hj, rfl, hr, hbel⟩ := hrel
    have HB := Lib.hid hbel
    have HR := Lib.hid hr
    clear hbel hr
    by_cases hlt : j < xs.length
    · obtain ⟨ad, hA, c0, _⟩ := pair_at (Kd.C_below HP.out HB.out) hlt
      obtain ⟨ad', hA', d0, _⟩ := pair_at (Kd.C_below HP.out HB.out) (i := j - 1) (by omega)
      rw [hA] at hA'
      cases hA'
      subst hA
      by_cases hk : (xs[j - 1]'(by omega)).f0 < xs[j].f0
      · have HR2 := Lib.hid ((rise_step hlt hj1 hk).trans HR.out)
        have hk2 : ¬ (pr xs[j]).1 ≤ (pr (xs[j - 1]'(by omega))).1 := by show ¬ xs[j].f0 ≤ (xs[j - 1]'(by omega)).f0; omega
        generalize (pr xs[j]).1 = k1 at *
        generalize (pr (xs[j - 1]'(by omega))).1 = k0 at *
        clear hk
        have ej : ((j : Int) - 1) = ((j - 1 : Nat) : Int) := by omega
        obtain ⟨i, rfl⟩ : ∃ i, j = i + 1 := ⟨j - 1, by omega⟩
        simp only [Nat.add_sub_cancel] at d0
        clear ej
        go_wp2_with fail
        go_quiet (fail)
        go_wp2
        go_roundw
        case rel => exact ⟨i + 1 + 1, by omega, by omega, by go_num, HR2.out, pw_below_drewN HB.out _⟩
        case measure => simp [intOf] <;> omega
      · have HK := Lib.hid (show chkP xs = 11 from if_neg (fun h => hk (by
          have := HR.out.2 h (j - 1) (by omega) (by omega)
          simpa [show j - 1 + 1 = j by omega] using this)))
        have hk2 : (pr xs[j]).1 ≤ (pr (xs[j - 1]'(by omega))).1 := by show xs[j].f0 ≤ (xs[j - 1]'(by omega)).f0; omega
        generalize (pr xs[j]).1 = k1 at *
        generalize (pr (xs[j - 1]'(by omega))).1 = k0 at *
        clear hk
        obtain ⟨i, rfl⟩ : ∃ i, j = i + 1 := ⟨j - 1, by omega⟩
        simp only [Nat.add_sub_cancel] at d0
        go_wp2_with fail
        go_quiet (fail)
        go_wp2
        exact HQ'.out _ _ ⟨by rw [HK.out]; rfl, pw_below_drewN HB.out _⟩
    · have HK := Lib.hid (show chkP xs = 0 from if_pos (HR.out.1 (fun i h hj2 => by omega)))
      go_wp2
      exact HQ'.out _ _ ⟨by rw [HK.out]; rfl, HB.out⟩
end Go.Proofs.Yteeficpjggimcaa

/- chain: begin of one script of one Put. -/
namespace Go.Proofs.Yteeficpjggimcaa
open Go.RowKit Go.Proofs.YteeficpjggimcaaW.PrintWords Go.Proofs.YteeficpjggimcaaW.PrintLast Go.Proofs.Yteeficpjggimcaa.PChainCalls
set_option linter.unusedVariables false
set_option linter.unusedSimpArgs false

set_option maxHeartbeats 4000000 in
set_option maxRecDepth 100000 in
theorem begin_one (w : World) (A : Option Addr) (c : Nat) (xs : List SP) (hl : xs.length ≤ 1000) (h : Kd.C k56 w A xs.length xs) (hc : xs.length ≤ c) (hk : RiseFrom xs 1) (sb obk cs cb : Nat) (key val hi : Int) (hs : w.cell? ⟨sb, 0, none⟩ = some (.slice (some ⟨obk, 0, none⟩) 1 cb))
    (h0 : w.cell? ⟨obk, 0, none⟩ = some (.int .i64 2)) (h1 : w.cell? ⟨obk, 1, none⟩ = some (.int .i64 key)) (h2 : w.cell? ⟨obk, 2, none⟩ = some (.int .i64 val)) (h3 : w.cell? ⟨obk, 3, none⟩ = some (.int .i64 hi)) :
    Calls Try.prog 35 #[.slice A xs.length c, .slice (some ⟨sb, 0, none⟩) 1 cs, .slice none 0 0] w fun e w' => ∃ ch R X bs, e = .returned (.tuple #[.pointer (some ⟨ch, 0, none⟩), .int .i64 0]) ∧ Chn w.heap.size w' R X bs (xs.map pr) ∧ Blk w' ch TCH [pv bs[0]?] ∧ w.heap.size ≤ ch ∧ Below w.heap.size w w' := by
  refine calls_hide fun Q HQ => ?_
  have HQ' := Lib.hid HQ
  have HN := Lib.hid (chain_new w A c xs (by omega) h hc hk)
  have HS := Lib.hid hs
  have H0 := Lib.hid (And.intro (And.intro h0 h1) (And.intro h2 h3))
  clear HQ h hk hs h0 h1 h2 h3
  go_enter Try.func35, Try.ntmps35
  go_wp2
  go_loopw [8, 27] (fun b k wr => ∃ j : Nat, j ≤ 1 ∧ b = .bool false ∧ k = .int .i64 j ∧ w = wr) (fun _ k _ => 1 - (intOf k).toNat)
  case atStart =>
    refine ⟨0, Nat.zero_le _, ?_, rfl, rfl⟩
    first | rfl | (have hx : ¬ (xs.length > 1000) := by omega
                   simp [hx] <;> omega) | (simp <;> omega)
  case round =>
    obtain ⟨j, hj, rfl, rfl, hw⟩ := hrel
    subst hw
    have hs := HS.out
    by_cases hlt : j < 1
    · obtain rfl : j = 0 := by omega
      go_wp2
      go_roundw
      case rel => exact ⟨1, by omega, rfl, rfl, by first | rfl | trivial⟩
      case measure => simp [intOf]
    · obtain rfl : j = 1 := by omega
      clear hs
      go_wp2_with fail
      refine HN.out.mono ?_
      rintro e w1 ⟨ch, R, X, bs, rfl, hch, hblk, hge, hbel⟩
      have HC := Lib.hid (And.intro hch (And.intro hblk hge))
      have HB := Lib.hid hbel
      have hs := pw_cell_below hbel HS.out
      have HW := Lib.hid (And.intro (And.intro (pw_cell_below hbel H0.out.1.1) (pw_cell_below hbel H0.out.1.2)) (And.intro (pw_cell_below hbel H0.out.2.1) (pw_cell_below hbel H0.out.2.2)))
      have HS1 := Lib.hid hs
      clear hch hblk hge hbel HN HS H0 hs
      go_wp2
      go_loopw [49] (fun k wr => ∃ j : Nat, j ≤ 1 ∧ k = .int .i64 j ∧ Below w1.heap.size w1 wr) (fun k _ => 1 - (intOf k).toNat)
      case atStart => exact ⟨0, Nat.zero_le _, rfl, Below.refl _ _⟩
      case round =>
        obtain ⟨j, hj, rfl, hb⟩ := hrel
        have HB2 := Lib.hid hb
        clear hb
        by_cases hlt : j < 1
        · obtain rfl : j = 0 := by omega
          have hs := pw_cell_below HB2.out HS1.out
          go_wp2
          clear hs
          go_loopw [55] (fun k wr2 => ∃ j : Nat, j ≤ 1 ∧ k = .int .i64 j ∧ Below w1.heap.size w1 wr2) (fun k _ => 1 - (intOf k).toNat)
          case atStart => exact ⟨0, Nat.zero_le _, rfl, HB2.out⟩
          case round =>
            clear HB2
            obtain ⟨j, hj, rfl, hb⟩ := hrel
            have HB2 := Lib.hid hb
            clear hb
            by_cases hlt : j < 1
            · obtain rfl : j = 0 := by omega
              have o0 := pw_cell_below HB2.out HW.out.1.1
              have o1 := pw_cell_below HB2.out HW.out.1.2
              have o2 := pw_cell_below HB2.out HW.out.2.1
              have o3 := pw_cell_below HB2.out HW.out.2.2
              have hn := (Blk.new wr TOP [.int .i64 2, .int .i64 key, .int .i64 val, .int .i64 hi]).cell 0
              simp only [List.getElem?_cons_zero] at hn
              have HB3 := Lib.hid (HB2.out.alloc HB2.out.size (.cells #[.int .i64 2, .int .i64 key, .int .i64 val, .int .i64 hi] TOP))
              go_wp2
              go_roundw
              case rel => exact ⟨1, by omega, rfl, HB3.out⟩
              case measure => simp [intOf]
            · obtain rfl : j = 1 := by omega
              go_wp2
              go_roundw
              case rel => exact ⟨1, by omega, rfl, HB2.out⟩
              case measure => simp [intOf]
        · obtain rfl : j = 1 := by omega
          go_wp2
          exact HQ'.out _ _ ⟨ch, R, X, bs, rfl, HC.out.1.below HB2.out, HC.out.2.1.below HB2.out HC.out.2.1.lt, HC.out.2.2, HB.out.trans (HB2.out.mono HB.out.size)⟩
end Go.Proofs.Yteeficpjggimcaa

/- cell: NewTape, Tape.Kinds. -/
namespace Go.Proofs.Yteeficpjggimcaa
open Go.RowKit Go.Proofs.YteeficpjggimcaaW.PrintWords
set_option linter.unusedVariables false
set_option linter.unusedSimpArgs false
abbrev TII : Nat := 3

set_option maxHeartbeats 400000 in
theorem tape_new (w : World) : Calls Try.prog 36 #[] w fun e w' => ∃ t, e = .returned (.pointer (some ⟨t, 0, none⟩)) ∧ TapeI w' w.heap.size t [] ∧ Below w.heap.size w w' := by
  have hb := Blk.new w 127 [.slice none 0 0]
  have H : TapeI (w.alloc (.cells #[.slice none 0 0] 127)) w.heap.size w.heap.size [] ∧ Below w.heap.size w (w.alloc (.cells #[.slice none 0 0] 127)) :=
    ⟨⟨.slice none 0 0, Nat.le_refl _, hb, World.ownsRow_nil _ _ _ _, by simp [Value.ownBlock]⟩, (Below.refl _ _).alloc (Nat.le_refl _) _⟩
  have H' := Lib.hid H
  clear hb H
  go_enter Try.func36, Try.ntmps36
  go_wp2
  go_ret
  exact ⟨_, rfl, H'.out⟩
set_option maxHeartbeats 400000 in
theorem tape_kinds (w : World) (B t : Nat) (ks : List Int) (h : TapeI w B t ks) (hl : ks.length ≤ 1000000000) :
    Calls Try.prog 37 #[.pointer (some ⟨t, 0, none⟩)] w fun e w' => ∃ v, e = .returned v ∧ w'.ownsRow w.heap.size TII 1 v ks.length (ks.map (Value.int .i64)) ∧ Below w.heap.size w w' := by
  obtain ⟨v, hB, hb, ho, hne⟩ := h
  obtain ⟨A, c, hv, hr, _⟩ := owns_slice ho
  have hnil : A = none → ks.length = 0 ∧ c = 0 := fun e => by
    subst e
    rcases ho.2 with ⟨h1, h2⟩ | ⟨g, cap, cur, h1, _⟩
    · rw [hv] at h1
      exact ⟨h2, (Value.slice.inj h1).2.2⟩
    · rw [hv] at h1
      exact absurd (Value.slice.inj h1).1 (by simp)
  have hc : w.cell? ⟨t, 0, none⟩ = some (.slice A ks.length c) := by rw [hb.cell 0, hv]; rfl
  have HC := Lib.hid (clone_any_int A ks.length c _ w hnil hr (by intro u hu; obtain ⟨n, _, rfl⟩ := List.mem_map.1 hu; rfl) (by omega))
  refine calls_hide fun Q HQ => ?_
  have HQ' := Lib.hid HQ
  clear HQ ho hv hr hnil hb
  go_enter Try.func37, Try.ntmps37
  go_wp2_with fail
  refine HC.out.mono ?_
  rintro e w1 ⟨A', c', rfl, h1, h2, h3, h4⟩
  have H1 := Lib.hid h1
  have H4 := Lib.hid h4
  clear h1 h2 h3 h4 HC
  go_wp2
  exact HQ'.out _ _ ⟨_, rfl, H1.out, H4.out⟩

end Go.Proofs.Yteeficpjggimcaa

/- chain: Alone of one Put. -/
namespace Go.Proofs.Yteeficpjggimcaa
open Go.RowKit Go.Proofs.YteeficpjggimcaaW.PrintWords Go.Proofs.YteeficpjggimcaaW.PrintLast Go.Proofs.Yteeficpjggimcaa.PChainCalls
set_option linter.unusedVariables false
set_option linter.unusedSimpArgs false

abbrev TRTs : Nat := 52
theorem pinfo_ret : (Try.prog.info? TRT).map (fun i => (i.zero, i.size, i.bytes)) = some (some (.agg #[.bool false, .int .i64 0, .int .i64 0, .slice none 0 0]), 4, 48) := by kernel_rfl
theorem results_tmp4 {fn : Func} {a b c d : Tmp} (h : fn.results = #[.tmp a, .tmp b, .tmp c, .tmp d]) (tmps : Array Value) (P : Program) (w : World) :
    (results fn tmps).run P w = .ok (.tuple #[tmps.getD a undef, tmps.getD b undef, tmps.getD c undef, tmps.getD d undef]) w := by
  simp [results, h]
/-- Behind the one operation. -/
def AlAt (w : World) (B B' t ch : Nat) (l' : List (Int × Int)) (ks : List Int) (rc : List Value) (v : Value) (wr : World) : Prop :=
  ∃ R X bs, Chn B wr R X bs l' ∧ GAtI wr B' (some t) ks ∧ Blk wr ch TCH [pv bs[0]?] ∧ wr.ownsRow w.heap.size TRT 4 v 1 rc ∧ Below w.heap.size w wr
set_option maxHeartbeats 4000000 in
set_option maxRecDepth 100000 in
theorem alone_one (w : World) (A : Option Addr) (c : Nat) (xs : List SP) (hl : xs.length ≤ 1000) (h : Kd.C k56 w A xs.length xs) (hc : xs.length ≤ c) (hk : RiseFrom xs 1) (obk cb : Nat) (key val hi : Int)
    (h0 : w.cell? ⟨obk, 0, none⟩ = some (.int .i64 2)) (h1 : w.cell? ⟨obk, 1, none⟩ = some (.int .i64 key)) (h2 : w.cell? ⟨obk, 2, none⟩ = some (.int .i64 val)) (h3 : w.cell? ⟨obk, 3, none⟩ = some (.int .i64 hi)) :
    Calls Try.prog 19 #[.slice A xs.length c, .slice (some ⟨obk, 0, none⟩) 1 cb] w fun e w' => ∃ vo vl vk, e = .returned (.tuple #[vo, vl, vk, .int .i64 0]) ∧
      w'.ownsRow w.heap.size TRT 4 vo 1 [.bool (getV (xs.map pr) key).2, .int .i64 0, .int .i64 (getV (xs.map pr) key).1, .slice none 0 0] ∧ w'.ownsRow w.heap.size TPA 2 vl (putL (xs.map pr) key val).length ((putL (xs.map pr) key val).flatMap pcells) ∧
      w'.ownsRow w.heap.size TII 1 vk (putK (xs.map pr) key).length ((putK (xs.map pr) key).map (Value.int .i64)) ∧ Below w.heap.size w w' := by
  refine calls_hide fun Q HQ => ?_
  have HQ' := Lib.hid HQ
  have HLX := Lib.hid (show (xs.map pr).length ≤ 1000 by simpa using hl)
  have hbw := (Below.refl w.heap.size w).alloc (Nat.le_refl _) (.cells #[.slice (some ⟨obk, 0, none⟩) 1 cb] 35)
  have hsb := (Blk.new w 35 [.slice (some ⟨obk, 0, none⟩) 1 cb]).cell 0
  have HBG := Lib.hid (begin_one _ A c xs hl (Kd.C_below h hbw) hc hk w.heap.size obk 1 cb key val hi hsb (pw_cell_below hbw h0) (pw_cell_below hbw h1) (pw_cell_below hbw h2) (pw_cell_below hbw h3))
  have HOC := Lib.hid (And.intro (And.intro h0 h1) (And.intro h2 h3))
  have HB0 := Lib.hid hbw
  clear HQ h hk hsb hbw h0 h1 h2 h3
  generalize xs.map pr = l at *
  go_enter Try.func19, Try.ntmps19
  go_wp2_with fail
  generalize w.alloc (.cells #[.slice (some ⟨obk, 0, none⟩) 1 cb] 35) = w0 at *
  refine HBG.out.mono ?_
  rintro e w1 ⟨ch, R, X, bs, rfl, hch, hblk, hge, hbel⟩
  have HTN := Lib.hid (tape_new w1)
  have HC1 := Lib.hid hch
  have HK1 := Lib.hid hblk
  have HB1 := Lib.hid (HB0.out.trans (hbel.mono HB0.out.size))
  have HSZ := Lib.hid (And.intro HB0.out.size hbel.size)
  clear hch hblk hge hbel HBG HB0
  go_wp2_with fail
  refine HTN.out.mono ?_
  rintro e w2 ⟨t, rfl, ht, hbel⟩
  have HC2 := Lib.hid (HC1.out.below hbel)
  have HK2 := Lib.hid (HK1.out.below hbel HK1.out.lt)
  have HB2 := Lib.hid (HB1.out.trans (hbel.mono HB1.out.size))
  have HT2 := Lib.hid ht
  have HSZ2 := Lib.hid hbel.size
  clear ht hbel HTN HC1 HK1
  go_wp2
  go_loopw [11, 29] (fun v k wr => ∃ j : Nat, j ≤ 1 ∧ k = .int .i64 j ∧ ((j = 0 ∧ v = .slice none 0 0 ∧ w2 = wr) ∨ (j = 1 ∧ AlAt w w0.heap.size w1.heap.size t ch (putL l key val) (putK l key) [.bool (getV l key).2, .int .i64 0, .int .i64 (getV l key).1, .slice none 0 0] v wr))) (fun _ k _ => 1 - (intOf k).toNat)
  case atStart => exact ⟨0, Nat.zero_le _, rfl, .inl ⟨rfl, rfl, rfl⟩⟩
  case round =>
    obtain ⟨j, hj, rfl, ⟨rfl, rfl, hw⟩ | ⟨rfl, hal⟩⟩ := hrel
    · subst hw
      have o0 := pw_cell_below HB2.out HOC.out.1.1
      have o1 := pw_cell_below HB2.out HOC.out.1.2
      have o2 := pw_cell_below HB2.out HOC.out.2.1
      have o3 := pw_cell_below HB2.out HOC.out.2.2
      have hbw := (Below.refl w2.heap.size w2).alloc (Nat.le_refl _) (.cells #[.int .i64 2, .int .i64 key, .int .i64 val, .int .i64 hi] TOP)
      have HN := Lib.hid (Blk.new w2 TOP [.int .i64 2, .int .i64 key, .int .i64 val, .int .i64 hi])
      have n0 := HN.out.cell 0
      have n1 := HN.out.cell 1
      have n2 := HN.out.cell 2
      have n3 := HN.out.cell 3
      simp only [List.getElem?_cons_zero, List.getElem?_cons_succ] at n0 n1 n2 n3
      have hg2 : GAtI w2 w1.heap.size (some t) [] := fun t' e => by cases e; exact HT2.out
      have hg3 := hg2.below0 hbw (fun _ => False)
      have HG3 := Lib.hid hg3
      have HC3 := Lib.hid (HC2.out.below hbw)
      have HK3 := Lib.hid (HK2.out.below hbw HK2.out.lt)
      have HB3 := Lib.hid (HB2.out.trans (hbw.mono HB2.out.size))
      have HSZ3 := Lib.hid (And.intro (Nat.le_trans HSZ2.out hbw.size) (Nat.le_trans HSZ.out.2 (Nat.le_trans HSZ2.out hbw.size)))
      have HDO := Lib.hid (chain_do_put w0.heap.size w1.heap.size _ (some t) [] R X bs l ch key val hi (HC2.out.below hbw) hg3.gate HSZ3.out.1 HSZ3.out.2 (by simp) (by have := HLX.out; omega) (HK2.out.below hbw HK2.out.lt))
      clear hbw hg2 hg3
      go_wp2_with fail
      generalize w2.alloc (.cells #[.int .i64 2, .int .i64 key, .int .i64 val, .int .i64 hi] 37) = w3 at *
      refine HDO.out.mono ?_
      rintro e w4 ⟨rfl, hst⟩
      have HK4 := Lib.hid (hst.blk HC3.out.rep HG3.out.gate HK3.out (by decide) (by decide) (by decide) (by decide) (by decide))
      obtain ⟨R', X', bs', hs, hmono, hch, hb0, _⟩ := hst
      have HC4 := Lib.hid hch
      have HG4 := Lib.hid hs.gate
      have HB0' := Lib.hid hb0
      have HB4 := Lib.hid (HB3.out.trans (hs.fr.below HB3.out.size (fun k hk => by
        rcases hk with hk | hk
        · have := (HG3.out.gate.foot hk).1
          exact Nat.le_trans HB1.out.size this
        · exact Nat.le_trans HSZ.out.1 (HC3.out.lo k hk))))
      clear hs hmono hch hb0 HDO HC3 HG3 HK3 o0 o1 o2 o3 n0 n1 n2 n3
      generalize hok : (getV l key).2 = ok_ at *
      generalize hv : (getV l key).1 = v_ at *
      have HOK := Lib.hid (And.intro hok hv)
      clear hok hv
      have hbw := (Below.refl w4.heap.size w4).alloc (Nat.le_refl _) (.cells #[.bool ok_, .int .i64 0, .int .i64 v_, .slice none 0 0] TRT)
      have HN4 := Lib.hid (Blk.new w4 TRT [.bool ok_, .int .i64 0, .int .i64 v_, .slice none 0 0])
      have HB5 := Lib.hid (HB4.out.alloc HB4.out.size (.cells #[.bool ok_, .int .i64 0, .int .i64 v_, .slice none 0 0] TRT))
      have n0 := HN4.out.cell 0
      have n1 := HN4.out.cell 1
      have n2 := HN4.out.cell 2
      have n3 := HN4.out.cell 3
      simp only [List.getElem?_cons_zero, List.getElem?_cons_succ] at n0 n1 n2 n3
      have HC5 := Lib.hid (HC4.out.below hbw)
      have HG5 := Lib.hid (HG4.out.below0 hbw (fun _ => False))
      have HK5 := Lib.hid (HK4.out.below hbw HK4.out.lt)
      clear hbw
      go_wp2_with (at_builtin; refine print_append_cells (w0 := w) w.heap.size rfl _ _ TRTs TRT (.agg #[.bool false, .int .i64 0, .int .i64 0, .slice none 0 0]) 4 48 rfl Try.underlying52 pinfo_ret rfl (by decide) (by decide) (.slice none 0 0) 0 [] [.bool ok_, .int .i64 0, .int .i64 v_, .slice none 0 0] rfl (by rw [World.size_alloc]; rfl) rfl (by simp [Value.oneCell']) (World.ownsRow_nil _ _ _ _) HB5.out HB5.out.size (by omega) ?_)
      intro a1 w6 hown1 hb1 hg1 hat1
      have HAL := Lib.hid (show AlAt w w0.heap.size w1.heap.size t ch (putL l key val) (putK l key) [.bool ok_, .int .i64 0, .int .i64 v_, .slice none 0 0] a1 w6 from
        ⟨R', X', bs', HC5.out.types (Fr.of_grown hg1) (fun k hk => by cases hk), (HG5.out.gate.fr (Fr.of_grown hg1) (fun k _ hk => by cases hk)).gate, by rw [HB0'.out]; exact (Fr.of_grown hg1).blk HK5.out (fun hk => by cases hk), by simpa using hown1, hb1⟩)
      clear hown1 hb1 hg1 hat1 n0 n1 n2 n3
      go_wp2
      go_roundw
      case rel => exact ⟨1, by omega, rfl, .inr ⟨rfl, by rw [HOK.out.1, HOK.out.2]; exact HAL.out⟩⟩
      case measure => simp [intOf]
    · obtain ⟨R', X', bs', hch, hg, hblk, hown, hbel⟩ := hal
      have HPS := Lib.hid (chain_pairs _ wr R' X' bs' _ ch hch (by have := put_len (key := key) (val := val) l; have := HLX.out; omega) hblk)
      have HG := Lib.hid hg
      have HO := Lib.hid hown
      have HB := Lib.hid hbel
      clear hch hg hblk hown hbel
      go_wp2_with fail
      refine HPS.out.mono ?_
      rintro e w7 ⟨vl, rfl, hvl, hb7⟩
      have HVL := Lib.hid (Go.Proofs.YteeficpjggimcaaW.PrintWords.own_weaken hvl HB.out.size)
      have HO7 := Lib.hid (Go.Proofs.YteeficpjggimcaaW.PrintWords.own_move HO.out (fun k hk => hb7.block k (World.ownsRow.lt HO.out k hk).2))
      have HB7 := Lib.hid (HB.out.trans (hb7.mono HB.out.size))
      have HTK := Lib.hid (tape_kinds w7 _ t _ ((HG.out.below0 hb7 (fun _ => False)).gate t rfl) (by
        have h9 := cutN_le l key
        have := HLX.out
        unfold putK
        split <;> simp [repK, insK] <;> omega))
      clear hvl hb7 HPS
      go_wp2_with fail
      refine HTK.out.mono ?_
      rintro e w8 ⟨vk, rfl, hvk, hb8⟩
      have HFIN := Lib.hid (HQ'.out _ w8 ⟨u11, vl, vk, rfl, Go.Proofs.YteeficpjggimcaaW.PrintWords.own_move HO7.out (fun k hk => hb8.block k (World.ownsRow.lt HO7.out k hk).2), Go.Proofs.YteeficpjggimcaaW.PrintWords.own_move HVL.out (fun k hk => hb8.block k (World.ownsRow.lt HVL.out k hk).2), Go.Proofs.YteeficpjggimcaaW.PrintWords.own_weaken hvk HB7.out.size, HB7.out.trans (hb8.mono HB7.out.size)⟩)
      clear hvk hb8 HTK
      go_wp2
      refine bodyPost_ret (results_tmp4 rfl _ _ _) rfl ?_
      exact HFIN.out
end Go.Proofs.Yteeficpjggimcaa

/- larchlaw15: fixed. -/
namespace Go.Proofs.Yteeficpjggimcaa
open Go.RowKit Go.Proofs.YteeficpjggimcaaW.PrintWords Go.Proofs.YteeficpjggimcaaW.PrintLast Go.Proofs.Yteeficpjggimcaa.PChainCalls
set_option linter.unusedVariables false
set_option linter.unusedSimpArgs false

theorem own_cells {w : World} {base e size n : Nat} {v : Value} {us : List Value} (h : w.ownsRow base e size v n us) (hn : 0 < n) : ∃ b c, v = .slice (some ⟨b, 0, none⟩) n c ∧ n ≤ c ∧ ∀ (q : Nat) u, us[q]? = some u → w.cell? ⟨b, q, none⟩ = some u := by
  rcases h.2 with ⟨_, h0⟩ | ⟨b, cap, cur, hv, hg, hh, hc, _, _, ht⟩
  · omega
  · refine ⟨b, cap, hv, hc, fun q u hu => ?_⟩
    have hb : Blk w b e cur.toList := by simpa [Blk] using hh
    rw [hb.cell]
    rw [← ht] at hu
    have := (List.getElem?_eq_some_iff.1 hu).1
    rw [List.getElem?_take_of_lt (by simp at this; omega)] at hu
    exact hu
theorem ints_rd {w : World} {base n : Nat} {v : Value} {xs : List Int} (h : w.ownsRow base TII 1 v n (xs.map (Value.int .i64))) (hn : xs.length = n) : ∃ A c, v = .slice A n c ∧ Kd.C (Kd.int .i64) w A n xs ∧ n ≤ c := by
  obtain ⟨A, c, hv, hrow⟩ := own_reads_row (R := (Kd.int .i64).K w) h ⟨by simp, fun j p hp => by
    show _ = [_]
    rw [Nat.mul_one, List.drop_eq_getElem_cons (by simpa using (List.getElem?_eq_some_iff.1 hp).1)]
    have := (List.getElem?_eq_some_iff.1 hp).2
    simp [this]⟩ hn
  refine ⟨A, c, hv, hrow, ?_⟩
  rcases h.2 with ⟨hv', h0⟩ | ⟨g, cap, cur, hv', _, _, hc, _⟩
  · omega
  · rw [hv] at hv'
    simp only [Value.slice.injEq] at hv'
    omega
theorem sameInts_l0 (xs : List Int) (hl : xs.length ≤ 1000000000000) : ∀ (m j : Nat), xs.length ≤ j + m → larchlaw15_sameInts.l0 (m + 1) xs xs j = some true := fun m => by
  induction m with
  | zero =>
    intro j h2
    unfold larchlaw15_sameInts.l0
    rw [if_neg (by omega)]
  | succ m ih =>
    intro j h2
    unfold larchlaw15_sameInts.l0
    by_cases hj : j < xs.length
    · rw [if_pos (show (j : Int) < xs.length by omega), if_pos (show (0 : Int) ≤ j by omega), if_pos (show (j : Int) < xs.length by omega), if_pos rfl, wrap64_id (by omega) (by omega), show ((j : Int) + 1) = ((j + 1 : Nat) : Int) by omega, ih (j + 1) (by omega)]
    · rw [if_neg (by omega)]
theorem law15_sameInts (w : World) (A A' : Option Addr) (c c' : Nat) (xs : List Int) (hl : xs.length ≤ 1000000000) (h : Kd.C (Kd.int .i64) w A xs.length xs) (hc : xs.length ≤ c) (h' : Kd.C (Kd.int .i64) w A' xs.length xs) (hc' : xs.length ≤ c') :
    Calls Try.prog 20 #[.slice A xs.length c, .slice A' xs.length c'] w fun e w' => e = .returned (.bool true) ∧ Below w.heap.size w w' := by
  refine (larchlaw15_sameInts.calls (xs.length + 1) A c xs A' c' xs true w h hc h' hc' ?_).mono ?_
  · unfold larchlaw15_sameInts.f
    rw [if_pos rfl]
    exact sameInts_l0 xs (by omega) xs.length 0 (by omega)
  · rintro e w1 ⟨rfl, mm, hw⟩
    exact ⟨rfl, by rw [hw]; exact pw_below_drewN (Below.refl _ _) mm⟩
def wantK : List Int := [1, 1, 1, 1, 1, 1, 1, 1, 1, 1, 1, 1, 1, 5, 5, 2, 2, 5, 2]
set_option maxHeartbeats 4000000 in
set_option maxRecDepth 100000 in
theorem law15_fixed (w : World) : Calls Try.prog 4 #[] w fun e w' => e = .returned (.bool true) ∧ Below w.heap.size w w' := by
  refine calls_hide fun Q HQ => ?_
  have HQ' := Lib.hid HQ
  have ha := (Below.refl w.heap.size w).alloc (Nat.le_refl _) (.cells #[.int .i64 5, .int .i64 50] TPA)
  have hb := ha.alloc ha.size (.cells #[.int .i64 2, .int .i64 5, .int .i64 51, .int .i64 0] TOP)
  have hp0 := (PRow.of_own (l := [(5, 50)]) (B := w.heap.size) (own_fresh (n := 1) (size := 2) (Blk.new w TPA [.int .i64 5, .int .i64 50]) rfl (Nat.le_refl _) (by simp [maxLen])))
  obtain ⟨A0, c0, e0, hrd, hc0⟩ := hp0.rd
  simp only [List.length_map, List.length_cons, List.length_nil, Nat.zero_add, Value.slice.injEq, true_and] at e0
  obtain ⟨rfl, rfl⟩ := e0
  have hrd2 := PRd.below hrd ((Below.refl (w.alloc (.cells #[.int .i64 5, .int .i64 50] TPA)).heap.size (w.alloc (.cells #[.int .i64 5, .int .i64 50] TPA))).alloc (Nat.le_refl _) (.cells #[.int .i64 2, .int .i64 5, .int .i64 51, .int .i64 0] TOP))
  have hop := Blk.new (w.alloc (.cells #[.int .i64 5, .int .i64 50] TPA)) TOP [.int .i64 2, .int .i64 5, .int .i64 51, .int .i64 0]
  rw [World.size_alloc] at hop
  have hal := alone_one _ (some ⟨w.heap.size, 0, none⟩) 1 ([(5, 50)].map sp) (by simp) hrd2 (by simp) (fun i h hj => by simp at h) (w.heap.size + 1) 1 5 51 0 (hop.cell 0) (hop.cell 1) (hop.cell 2) (hop.cell 3)
  have HAL := Lib.hid hal
  have HB := Lib.hid hb
  clear HQ ha hb hp0 hrd hrd2 hop hal hc0
  go_enter Try.func4, Try.ntmps4
  go_wp2_with fail
  refine HAL.out.mono ?_
  rintro e w1 ⟨vo, vl, vk, rfl, ho, hvl, hvk, hbel⟩
  have HB1 := Lib.hid (HB.out.trans (hbel.mono HB.out.size))
  obtain ⟨bo, co, rfl, _, hoc⟩ := own_cells ho (by omega)
  have HOC := Lib.hid (show ∀ (q : Nat) u, ([.bool true, .int .i64 0, .int .i64 50, .slice none 0 0] : List Value)[q]? = some u → w1.cell? ⟨bo, q, none⟩ = some u from hoc)
  have hvl2 := PRow.of_own (l := [(5, 51)]) (Go.Proofs.YteeficpjggimcaaW.PrintWords.own_weaken hvl (Nat.zero_le _))
  have hvk2 : w1.ownsRow 0 TII 1 vk 19 (wantK.map (Value.int .i64)) := Go.Proofs.YteeficpjggimcaaW.PrintWords.own_weaken hvk (Nat.zero_le _)
  obtain ⟨Ak, ck, rfl, hkk, hck⟩ := ints_rd hvk2 rfl
  obtain ⟨Al, cl, rfl, hll, hcl⟩ := hvl2.rd
  have HVL := Lib.hid (And.intro hll hcl)
  have HVK := Lib.hid (And.intro hkk hck)
  clear ho hvl hvk hbel hoc hvl2 hvk2 hkk hck hll hcl HAL HB
  have hw2 := (Below.refl w1.heap.size w1).alloc (Nat.le_refl _) (.cells #[.int .i64 1, .int .i64 1, .int .i64 1, .int .i64 1, .int .i64 1, .int .i64 1, .int .i64 1, .int .i64 1, .int .i64 1, .int .i64 1, .int .i64 1, .int .i64 1, .int .i64 1, .int .i64 5, .int .i64 5, .int .i64 2, .int .i64 2, .int .i64 5, .int .i64 2] TII)
  have HWK := Lib.hid (Blk.new w1 TII (wantK.map (Value.int .i64)))
  have n0 := pw_cell_below hw2 (HOC.out 0 _ rfl)
  have n1 := pw_cell_below hw2 (HOC.out 1 _ rfl)
  have n2 := pw_cell_below hw2 (HOC.out 2 _ rfl)
  have n3 := pw_cell_below hw2 (HOC.out 3 _ rfl)
  have HB2 := Lib.hid (HB1.out.trans (hw2.mono HB1.out.size))
  have HW2 := Lib.hid hw2
  have HSR := Lib.hid (show Calls Try.prog 16 #[.agg #[.bool true, .int .i64 0, .int .i64 50, .slice none 0 0], .agg #[.bool true, .int .i64 0, .int .i64 50, .slice none 0 0]] (w1.alloc (.cells #[.int .i64 1, .int .i64 1, .int .i64 1, .int .i64 1, .int .i64 1, .int .i64 1, .int .i64 1, .int .i64 1, .int .i64 1, .int .i64 1, .int .i64 1, .int .i64 1, .int .i64 1, .int .i64 5, .int .i64 5, .int .i64 2, .int .i64 2, .int .i64 5, .int .i64 2] TII)) _ from ref06_sameret _ true 0 50 none none 0 0 [] (by simp) (Kd.C_nil _ _) (by simp) (Kd.C_nil _ _) (by simp))
  clear hw2
  go_wp2_with fail
  refine HSR.out.mono ?_
  rintro e w3 ⟨rfl, hb3⟩
  have hb13 := HW2.out.trans (hb3.mono HW2.out.size)
  have HW3 := Lib.hid hb13
  have HWK3 := Lib.hid (HWK.out.below hb3 HWK.out.lt)
  have HB3 := Lib.hid (HB1.out.trans (hb13.mono HB1.out.size))
  have hz := (Below.refl w3.heap.size w3).alloc (Nat.le_refl _) (.cells #[.int .i64 5, .int .i64 51] TPA)
  have hp1 := (PRow.of_own (l := [(5, 51)]) (B := w3.heap.size) (own_fresh (n := 1) (size := 2) (Blk.new w3 TPA [.int .i64 5, .int .i64 51]) rfl (Nat.le_refl _) (by simp [maxLen])))
  obtain ⟨A0, c0, e0, hrd, hc0⟩ := hp1.rd
  simp only [List.length_map, List.length_cons, List.length_nil, Nat.zero_add, Value.slice.injEq, true_and] at e0
  obtain ⟨rfl, rfl⟩ := e0
  have HSM := Lib.hid (ref06_same _ Al (some ⟨w3.heap.size, 0, none⟩) cl 1 [(5, 51)] (by simp) (PRd.below HVL.out.1 (hb13.trans (hz.mono hb13.size))) HVL.out.2 hrd (by simp))
  have HWK4 := Lib.hid (HWK3.out.below hz HWK3.out.lt)
  have HB4 := Lib.hid (HB3.out.trans (hz.mono HB3.out.size))
  have HW4 := Lib.hid (hb13.trans (hz.mono hb13.size))
  clear hb3 hb13 hz hp1 hrd hc0 n0 n1 n2 n3
  go_wp2_with fail
  refine HSM.out.mono ?_
  rintro e w5 ⟨rfl, hb5⟩
  have hb15 := HW4.out.trans (hb5.mono HW4.out.size)
  have hwk := own_fresh (base := 0) (n := 19) (size := 1) (HWK4.out.below hb5 HWK4.out.lt) rfl (Nat.zero_le _) (by simp [maxLen])
  obtain ⟨Aw, cw, ew, hkw, _⟩ := ints_rd (xs := wantK) hwk rfl
  simp only [Value.slice.injEq, true_and] at ew
  obtain ⟨rfl, rfl⟩ := ew
  have HSI := Lib.hid (law15_sameInts w5 Ak (some ⟨w1.heap.size, 0, none⟩) ck 19 wantK (by decide) (Kd.C_below HVK.out.1 hb15) HVK.out.2 hkw (by decide))
  have HB5 := Lib.hid (HB4.out.trans (hb5.mono HB4.out.size))
  clear hb5 hb15 hwk hkw HSM HSR
  go_wp2_with fail
  refine HSI.out.mono ?_
  rintro e w6 ⟨rfl, hb6⟩
  have HFIN := Lib.hid (HQ'.out _ w6 ⟨rfl, HB5.out.trans (hb6.mono HB5.out.size)⟩)
  clear hb6
  go_wp2
  exact HFIN.out
end Go.Proofs.Yteeficpjggimcaa
