/- Joined texts: ChainP ChainQ ChainR ChainS ChainT. -/
import Derived.Test.YteeficpjggimcaaM6
import Derived.Deep.RegionLaw
import Derived.Test.YteeficpjggimcaaPChainCallsx2
import Derived.Test.YteeficpjggimcaaPChainCallsx4

/- chain: VLX. -/
namespace Go.Proofs.Yteeficpjggimcaa
open Go.RowKit Go.Proofs.YteeficpjggimcaaW.PrintWords Go.Proofs.YteeficpjggimcaaW.PrintLast
set_option linter.unusedVariables false
set_option linter.unusedSimpArgs false

theorem flat3 : ∀ (L : List Lk) (j : Nat) (y : Lk), L[j]? = some y → ∀ q, q < 3 → (L.flatMap Lk.cells)[j * 3 + q]? = y.cells[q]?
  | [], j, y, h, _, _ => by simp at h
  | z :: L, 0, y, h, q, hq => by
    simp only [List.getElem?_cons_zero, Option.some.injEq] at h
    subst h
    rw [List.flatMap_cons, List.getElem?_append_left (by show _ < 3; omega)]
    congr 1; omega
  | z :: L, j + 1, y, h, q, hq => by
    rw [List.flatMap_cons, List.getElem?_append_right (by show 3 ≤ _; omega)]
    have := flat3 L j y (by simpa using h) q hq
    rw [← this]
    congr 1
    show (j + 1) * 3 + q - 3 = _
    omega
theorem own_lk {w : World} {base n : Nat} {v : Value} {L : List Lk} (h : w.ownsRow base TLK 3 v n (L.flatMap Lk.cells)) (hL : L.length = n) (hn : 0 < n) : ∃ b c, v = .slice (some ⟨b, 0, none⟩) n c ∧ LkAt w b L ∧ base ≤ b := by
  rcases h.2 with ⟨_, h0⟩ | ⟨b, cap, cur, hv, hg, hh, hc, _, _, ht⟩
  · omega
  · refine ⟨b, cap, hv, fun j y hy => ?_, hg⟩
    have hb : Blk w b TLK cur.toList := by simpa [Blk] using hh
    have hj := (List.getElem?_eq_some_iff.1 hy).1
    have key : ∀ q, q < 3 → w.cell? ⟨b, j * 3 + q, none⟩ = y.cells[q]? := fun q hq => by
      rw [hb.cell, ← flat3 L j y hy q hq, ← ht, List.getElem?_take_of_lt (by omega)]
    exact ⟨key 0 (by omega), key 1 (by omega), key 2 (by omega)⟩
theorem neq_pscx_refl {w : World} {x : Nat} (h : PtrTo TPX 9 w (some x)) : (binOp .neq THXapiPair (.pointer (some ⟨x, 0, none⟩)) (.pointer (some ⟨x, 0, none⟩))).run Try.prog w = .ok (.bool false) w := by
  obtain ⟨i, hi, hsz⟩ := hsz_apiPair
  have e2 := run_neq_ptr (P := Try.prog) (w := w) (x := some x) (y := some x) Try.underlying71 hi hsz h.known h.known
  rwa [decide_eq_false (fun e => e rfl)] at e2
theorem owns_typed' {w : World} {base : Nat} {e : TypeId} {size n : Nat} {v : Value} {xs : List Value} (h : w.ownsRow base e size v n xs) (k : Nat) (hk : v.ownBlock = some k) : ∃ cells, Blk w k e cells := by
  obtain ⟨cells, hc⟩ := Go.Proofs.YteeficpjggimcaaW.PrintWords.own_typed h k hk
  exact ⟨cells.toList, by simpa [Blk] using hc⟩
set_option maxHeartbeats 4000000 in
set_option maxRecDepth 100000 in
theorem chain_vlx (B B' : Nat) (w : World) (g : Option Nat) (ks : List Int) (R : Nat → Option RecO) (X : Nat → Option ScxO) (bs : List Nat) (l : List (Int × Int)) (h : Chn B w R X bs l) (hg : GAtI w B' g ks) (hB : B' ≤ w.heap.size) (hl : ks.length ≤ 700000000)
    (b c base : Nat) (L : List Lk) (hll : L.length ≤ 1000001) (ho : w.ownsRow base TLK 3 (.slice (some ⟨b, 0, none⟩) L.length c) L.length (L.flatMap Lk.cells)) (hb : 0 < L.length) (hlk : LkOf R bs L) :
    Calls Try.prog 32 #[gvI g, .slice (some ⟨b, 0, none⟩) L.length c] w fun e w' => e = .returned (.bool true) ∧ w'.ownsRow base TLK 3 (.slice (some ⟨b, 0, none⟩) L.length c) L.length (L.flatMap Lk.cells) ∧ StepI B' g w w' (ks ++ List.replicate L.length 1) (fun _ => False) ∧ Chn B w' R X bs l := by
  refine calls_hide fun Q HQ => ?_
  have HQ' := Lib.hid HQ
  have HC := Lib.hid h
  have HG := Lib.hid hg
  have HO := Lib.hid ho
  have HLK := Lib.hid hlk
  clear HQ h hg ho hlk
  go_enter Try.func32, Try.ntmps32
  go_wp2
  go_loopw [9] (fun k wr => ∃ j : Nat, j ≤ L.length ∧ k = .int .i64 j ∧ StepI B' g w wr (ks ++ List.replicate j 1) (fun _ => False) ∧ Chn B wr R X bs l ∧ wr.ownsRow base TLK 3 (.slice (some ⟨b, 0, none⟩) L.length c) L.length (L.flatMap Lk.cells)) (fun k _ => L.length - (intOf k).toNat)
  case atStart => exact ⟨0, Nat.zero_le _, rfl, by simpa using Step.refl HG.out _, HC.out, HO.out⟩
  case round =>
    clear HG HC HO
    obtain ⟨j, hj, rfl, hs, hch, hown⟩ := hrel
    have HS := Lib.hid hs
    have HC := Lib.hid hch
    have HO := Lib.hid hown
    have HSZ := Lib.hid (Nat.le_trans hB hs.fr.size)
    clear hs hch hown
    by_cases hlt : j < L.length
    · obtain ⟨b2, c2, hv, hlka, _⟩ := own_lk HO.out rfl hb
      simp only [Value.slice.injEq, Option.some.injEq, Addr.mk.injEq, and_true, true_and] at hv
      obtain ⟨rfl, rfl⟩ := hv
      have hget := List.getElem?_eq_getElem hlt
      obtain ⟨h0, h1, h2⟩ := hlka j _ hget
      obtain ⟨_, o, ho, hx⟩ := HLK.out j _ hget
      generalize L[j] = y at *
      obtain ⟨r, x, A, ny, cy⟩ := y
      simp only at h0 h1 h2 ho hx
      obtain ⟨od, ofb, ofl, oi, om⟩ := o
      simp only at hx
      subst hx
      have hbw := ((Below.refl wr.heap.size wr).alloc (Nat.le_refl _) (.cells #[.pointer (some ⟨r, 0, none⟩), .pointer (some ⟨x, 0, none⟩), .slice A ny cy] TLK)).drew
      have HN := Lib.hid ((Blk.new wr TLK [.pointer (some ⟨r, 0, none⟩), .pointer (some ⟨x, 0, none⟩), .slice A ny cy]).drew)
      have HS1 := Lib.hid (step_new HS.out (Fr.of_below0 (S := fun _ => False) hbw) (fun _ hk => hk.elim))
      have HC1 := Lib.hid (HC.out.below hbw)
      have HO1 := Lib.hid (Go.Proofs.YteeficpjggimcaaW.PrintWords.own_move HO.out (fun k hk => hbw.block k (World.ownsRow.lt HO.out k hk).2))
      have HI := Lib.hid (HC1.out.info HS1.out.gate (Nat.le_trans HSZ.out hbw.size) (by simp; omega) ho)
      have n0 := HN.out.cell 0
      have n1 := HN.out.cell 1
      simp only [List.getElem?_cons_zero, List.getElem?_cons_succ] at n0 n1
      have ho' := Lib.hid ho
      clear hbw hget hlka ho
      go_wp2_with fail
      go_region_law (go_simp; go_at_call 44; refine HI.out.mono ?_; rintro e w5 ⟨rfl, hs, hc, _⟩
                     have HN5 := Lib.hid (hs.blk HS1.out.gate HN.out (by decide) (by decide) (fun x => x))
                     have n1' := HN5.out.cell 1
                     simp only [List.getElem?_cons_zero, List.getElem?_cons_succ] at n1'
                     have hnq := neq_pscx_refl (hc.rep.scxPtr (hc.rep.okInfo ho'.out))
                     have HS5 := Lib.hid (HS1.out.trans hs (fun _ _ x => x))
                     have HC5 := Lib.hid hc
                     have HO5 := Lib.hid (Go.Proofs.YteeficpjggimcaaW.PrintWords.own_move HO1.out (fun k hk => hs.fr.block k (World.ownsRow.lt HO1.out k hk).2 (fun hx => by
                       rcases hx with hx | hx
                       · obtain ⟨ys, hy⟩ := owns_typed' HO1.out k hk
                         exact HS1.out.gate.apart hy (by decide) (by decide) hx
                       · exact hx)))
                     clear hs hc)
      all_goals
        go_wp2
        go_roundw
        case rel => exact ⟨j + 1, by omega, by go_num, by have := HS5.out; rwa [List.append_assoc, ← List.replicate_succ'] at this, HC5.out, HO5.out⟩
        case measure => simp [intOf]; omega
    · have hje : j = L.length := by omega
      subst hje
      go_wp2
      exact HQ'.out _ _ ⟨rfl, HO.out, HS.out, HC.out⟩
end Go.Proofs.Yteeficpjggimcaa

/- chain: Range. -/
namespace Go.Proofs.Yteeficpjggimcaa
open Go.RowKit Go.Proofs.YteeficpjggimcaaW.PrintWords Go.Proofs.YteeficpjggimcaaW.PrintLast
set_option linter.unusedVariables false
set_option linter.unusedSimpArgs false

def rangeL (l : List (Int × Int)) (lo hi : Int) : List (Int × Int) := if lo > hi then [] else (l.take (cutN l (hi + 1))).filter fun p => decide (lo ≤ p.1)
def rangeK (l : List (Int × Int)) (lo hi : Int) : List Int := if lo > hi then [] else List.replicate (7 * (cutN l (hi + 1) + 1)) 1
theorem filter_next (l : List (Int × Int)) (f : Int × Int → Bool) (j : Nat) (h : j < l.length) : (l.take (j + 1)).filter f = (l.take j).filter f ++ if f l[j] then [l[j]] else [] := by
  rw [← take_next l j h, List.filter_append]
  congr 1
  cases hf : f l[j] <;> simp [hf]
set_option maxHeartbeats 4000000 in
set_option maxRecDepth 100000 in
theorem chain_range (B B' : Nat) (w : World) (g : Option Nat) (ks : List Int) (R : Nat → Option RecO) (X : Nat → Option ScxO) (bs : List Nat) (l : List (Int × Int)) (c : Nat) (lo hi : Int) (h : Chn B w R X bs l) (hg : GAtI w B' g ks) (hB : B' ≤ w.heap.size) (hl : ks.length ≤ 600000000) (hll : l.length ≤ 1000000) (hc : Blk w c TCH [pv bs[0]?]) :
    Calls Try.prog 14 #[.pointer (some ⟨c, 0, none⟩), gvI g, .int .i64 lo, .int .i64 hi] w fun e w' => ∃ v, e = .returned v ∧ w'.ownsRow w.heap.size TPA 2 v (rangeL l lo hi).length ((rangeL l lo hi).flatMap pcells) ∧ StepI B' g w w' (ks ++ rangeK l lo hi) (fun _ => False) ∧ Chn B w' R X bs l := by
  refine calls_hide fun Q HQ => ?_
  have HQ' := Lib.hid HQ
  have HC0 := Lib.hid h
  have HG := Lib.hid hg
  have HLN := Lib.hid h.len
  have HLS := Lib.hid (chain_links B B' w g ks R X bs l c hi h hg hB hl hll hc)
  clear HQ h hg hc
  by_cases hlh : lo > hi
  · have HR := Lib.hid (And.intro (show rangeL l lo hi = [] from if_pos hlh) (show rangeK l lo hi = [] from if_pos hlh))
    clear HLS
    go_enter Try.func14, Try.ntmps14
    go_wp2
    exact HQ'.out _ _ ⟨_, rfl, by rw [HR.out.1]; exact World.ownsRow_nil _ _ _ _, by rw [HR.out.2]; simpa using Step.refl HG.out _, HC0.out⟩
  · have HR := Lib.hid (And.intro (show rangeL l lo hi = _ from if_neg hlh) (show rangeK l lo hi = _ from if_neg hlh))
    go_enter Try.func14, Try.ntmps14
    go_wp2
    go_loopw [17] (fun v wr => w = wr) (fun _ _ => 0)
    case atStart => exact rfl
    case round =>
      obtain rfl : w = wr := hrel
      go_wp2_with fail
      refine HLS.out.mono ?_
      rintro e w1 ⟨v, L, rfl, hLl, hlk, hown, hs, hch⟩
      have hq := cutN_le l (hi + 1)
      generalize cutN l (hi + 1) = q at *
      obtain ⟨b, c1, rfl, _, _⟩ := own_lk hown hLl (by omega)
      rw [← hLl] at hown
      have HV := Lib.hid (chain_vlx B B' w1 g _ R X bs l hch hs.gate (Nat.le_trans hB hs.fr.size) (by simp; omega) b c1 _ L (by omega) hown (by omega) hlk)
      have HS1 := Lib.hid hs
      have HLK := Lib.hid hlk
      have HLL := Lib.hid hLl
      rw [hLl] at HV
      clear hs hch hown hlk hLl HLS
      go_wp2_with fail
      refine HV.out.mono ?_
      rintro e w2 ⟨rfl, hown, hs, hch⟩
      have HS2 := Lib.hid (HS1.out.trans hs (fun _ _ x => x))
      have HC2 := Lib.hid hch
      have HO2 := Lib.hid hown
      have HSZ2 := Lib.hid HS2.out.fr.size
      clear hs hch hown HV
      have c1le : q + 1 ≤ c1 := by
        rcases HO2.out.2 with ⟨hv, _⟩ | ⟨g9, cap, cur, hv, _, _, hc9, _⟩
        · simp at hv
        · simp only [Value.slice.injEq] at hv
          omega
      by_cases hc1 : c1 = 1
      · subst hc1
        have hq0 : q = 0 := by omega
        go_wp2
        go_loopw [11, 33] (fun v k wr => ∃ j : Nat, j ≤ q ∧ k = .int .i64 j ∧ Below w2.heap.size w2 wr ∧ wr.ownsRow w2.heap.size TPA 2 v ((l.take j).filter fun p => decide (lo ≤ p.1)).length (((l.take j).filter fun p => decide (lo ≤ p.1)).flatMap pcells)) (fun _ k _ => q - (intOf k).toNat)
        case atStart => exact ⟨0, Nat.zero_le _, rfl, Below.refl _ _, World.ownsRow_nil _ _ _ _⟩
        case round =>
          obtain ⟨j, hj, rfl, hbel, hown⟩ := hrel
          have HBL := Lib.hid hbel
          have HO := Lib.hid hown
          clear hbel hown
          by_cases hlt : j < q
          · exfalso; omega
          · have hje : j = q := by omega
            subst hje
            have HFIN := Lib.hid (HQ'.out _ wr ⟨_, rfl, by rw [HR.out.1]; exact Go.Proofs.YteeficpjggimcaaW.PrintWords.own_weaken HO.out HSZ2.out, by
              rw [HR.out.2]
              have h5 := step_new HS2.out (Fr.of_below0 (S := fun _ => False) HBL.out) (fun _ hk => hk.elim)
              rw [List.append_assoc, List.replicate_append_replicate] at h5
              rwa [show 6 * (j + 1) + (j + 1) = 7 * (j + 1) by omega] at h5, HC2.out.below HBL.out⟩)
            go_wp2
            exact HFIN.out
      · go_wp2
        go_loopw [11, 33] (fun v k wr => ∃ j : Nat, j ≤ q ∧ k = .int .i64 j ∧ Below w2.heap.size w2 wr ∧ wr.ownsRow w2.heap.size TPA 2 v ((l.take j).filter fun p => decide (lo ≤ p.1)).length (((l.take j).filter fun p => decide (lo ≤ p.1)).flatMap pcells)) (fun _ k _ => q - (intOf k).toNat)
        case atStart => exact ⟨0, Nat.zero_le _, rfl, Below.refl _ _, World.ownsRow_nil _ _ _ _⟩
        case round =>
          obtain ⟨j, hj, rfl, hbel, hown⟩ := hrel
          have HBL := Lib.hid hbel
          have HO := Lib.hid hown
          clear hbel hown
          by_cases hlt : j < q
          · have hjl : j < l.length := by omega
            obtain ⟨b9, c9, hv9, hlka, _⟩ := own_lk HO2.out HLL.out (by omega)
            simp only [Value.slice.injEq, Option.some.injEq, Addr.mk.injEq, and_true, true_and] at hv9
            obtain ⟨rfl, rfl⟩ := hv9
            have hget : L[j + 1]? = some (L[j + 1]'(by have := HLL.out; omega)) := List.getElem?_eq_getElem _
            obtain ⟨h0, h1, h2⟩ := hlka (j + 1) _ hget
            obtain ⟨hbs, _⟩ := HLK.out (j + 1) _ hget
            have HF := Lib.hid (filter_next l (fun p => decide (lo ≤ p.1)) j hjl)
            obtain ⟨hk, hv⟩ := (HC2.out.below HBL.out).key hjl hbs
            have h0' := pw_cell_below HBL.out h0
            have h1' := pw_cell_below HBL.out h1
            have h2' := pw_cell_below HBL.out h2
            rw [show (j + 1) * 3 = 3 + j * 3 by omega] at h0' h1' h2'
            have hlen9 : ((l.take j).filter fun p => decide (lo ≤ p.1)).length ≤ 1000000 := Nat.le_trans (List.length_filter_le _ _) (by simp; omega)
            generalize L[j + 1]'(by have := HLL.out; omega) = y at *
            generalize l[j] = pr at *
            obtain ⟨r, x, A, ny, cy⟩ := y
            obtain ⟨pk, pw⟩ := pr
            simp only at hk hv h0' h1' h2' HF
            have hbw := (Below.refl wr.heap.size wr).alloc (Nat.le_refl _) (.cells #[.pointer (some ⟨r, 0, none⟩), .pointer (some ⟨x, 0, none⟩), .slice A ny cy] TLK)
            have HN := Lib.hid (Blk.new wr TLK [.pointer (some ⟨r, 0, none⟩), .pointer (some ⟨x, 0, none⟩), .slice A ny cy])
            have HBL2 := Lib.hid (HBL.out.alloc HBL.out.size (.cells #[.pointer (some ⟨r, 0, none⟩), .pointer (some ⟨x, 0, none⟩), .slice A ny cy] TLK))
            have HO3 := Lib.hid (Go.Proofs.YteeficpjggimcaaW.PrintWords.own_move HO.out (fun k hk => hbw.block k (World.ownsRow.lt HO.out k hk).2))
            have hk' := pw_cell_below hbw hk
            have hv' := pw_cell_below hbw hv
            have n0 := HN.out.cell 0
            simp only [List.getElem?_cons_zero] at n0
            clear hbw hget hlka hbs h0 h1 h2 hk hv
            by_cases hge : lo ≤ pk
            · have HF2 := Lib.hid (show (l.take (j + 1)).filter (fun p => decide (lo ≤ p.1)) = (l.take j).filter (fun p => decide (lo ≤ p.1)) ++ [(pk, pw)] from by rw [HF.out, if_pos (decide_eq_true hge)])
              clear HF
              go_wp2_with (at_builtin; refine print_append_cells (w0 := w2) w2.heap.size rfl _ _ TPAs TPA (.agg #[.int .i64 0, .int .i64 0]) 2 16 rfl Try.underlying22 pinfo_pair rfl (by decide) (by decide) u11 _ _ [.int .i64 pk, .int .i64 pw] rfl (by rw [World.size_alloc]; rfl) rfl (by simp [Value.oneCell']) HO3.out HBL2.out HBL2.out.size (by omega) ?_)
              intro a1 w6 hown1 hb1 hg1 hat1
              have HO6 := Lib.hid (show w6.ownsRow w2.heap.size TPA 2 a1 ((l.take (j + 1)).filter fun p => decide (lo ≤ p.1)).length (((l.take (j + 1)).filter fun p => decide (lo ≤ p.1)).flatMap pcells) from by
                rw [HF2.out, List.length_append, List.flatMap_append]
                simpa [pcells] using hown1)
              have HB6 := Lib.hid hb1
              clear hown1 hb1 hg1 hat1 hk' hv' n0 h0' h1' h2' HO3 HBL2 HN HF2 HO HBL
              go_wp2
              go_roundw
              case rel => exact ⟨j + 1, by omega, by go_num, HB6.out, HO6.out⟩
              case measure => simp [intOf]; omega
            · have HF2 := Lib.hid (show (l.take (j + 1)).filter (fun p => decide (lo ≤ p.1)) = (l.take j).filter (fun p => decide (lo ≤ p.1)) from by rw [HF.out, if_neg (by simpa using hge), List.append_nil])
              clear HF
              go_wp2
              go_roundw
              case rel => exact ⟨j + 1, by omega, by go_num, HBL2.out, by rw [HF2.out]; exact HO3.out⟩
              case measure => simp [intOf]; omega
          · have hje : j = q := by omega
            subst hje
            have HFIN := Lib.hid (HQ'.out _ wr ⟨_, rfl, by rw [HR.out.1]; exact Go.Proofs.YteeficpjggimcaaW.PrintWords.own_weaken HO.out HSZ2.out, by
              rw [HR.out.2]
              have h5 := step_new HS2.out (Fr.of_below0 (S := fun _ => False) HBL.out) (fun _ hk => hk.elim)
              rw [List.append_assoc, List.replicate_append_replicate] at h5
              rwa [show 6 * (j + 1) + (j + 1) = 7 * (j + 1) by omega] at h5, HC2.out.below HBL.out⟩)
            go_wp2
            exact HFIN.out
end Go.Proofs.Yteeficpjggimcaa

/- chain: Do, a kind at a time. Printed by p_chaindo.py. -/
namespace Go.Proofs.Yteeficpjggimcaa
open Go.RowKit Go.Proofs.YteeficpjggimcaaW.PrintWords Go.Proofs.YteeficpjggimcaaW.PrintLast
set_option linter.unusedVariables false
set_option linter.unusedSimpArgs false

abbrev TOP : Nat := 37
abbrev TRT : Nat := 39
theorem rtsize : (Try.prog.info? TRT).map (·.size) = some 4 := by kernel_rfl
def zRet : List Value := [.bool false, .int .i64 0, .int .i64 0, .slice none 0 0]
section
variable {B B' : Nat} {w w' w2 W : World} {g : Option Nat} {ks ks' ks2 : List Int} {R : Nat → Option RecO} {X : Nat → Option ScxO} {bs : List Nat} {l l' : List (Int × Int)}
theorem step_newS {S S0 : Nat → Prop} (hs : StepI B' g w W ks' S0) (hf : Fr W w' S) (hS : ∀ k, S k → w.heap.size ≤ k ∧ ∃ T ys, Blk W k T ys ∧ T ≠ 127 ∧ T ≠ 3) : StepI B' g w w' ks' S0 :=
  hs.trans (hs.gate.fr hf (fun k hk hs' => by
    obtain ⟨_, T, ys, hb, h1, h2⟩ := hS k hs'
    exact hs.gate.apart hb h1 h2 hk)) (fun i hi hx => by have := (hS i hx).1; omega)
/-- What is new to the call, and no record's nor the tape's, has turned. -/
theorem ChStep.new {S : Nat → Prop} (h : ChStep B B' g w R X bs ks' l' W) (hf : Fr W w' S) (hS : ∀ k, S k → w.heap.size ≤ k ∧ ∃ T ys, Blk W k T ys ∧ T ≠ 127 ∧ T ≠ 3 ∧ T ≠ TPR ∧ T ≠ TPC ∧ T ≠ TPX) : ChStep B B' g w R X bs ks' l' w' := by
  obtain ⟨R', X', bs', h1, h2, h3, h4⟩ := h
  exact ⟨R', X', bs', step_newS h1 hf (fun k hk => by obtain ⟨a, T, ys, b, c, d, _⟩ := hS k hk; exact ⟨a, T, ys, b, c, d⟩), h2, h3.types hf (fun k hk => by obtain ⟨_, T, ys, b, _, _, c, d, e⟩ := hS k hk; exact ⟨T, ys, b, c, d, e⟩), h4⟩
/-- What is no record's nor the tape's stays. -/
theorem ChStep.blk (h : ChStep B B' g w R X bs ks' l' w') (hr : RepapiPair w R X) (hg : GAtI w B' g ks) {b T : Nat} {us : List Value} (hb : Blk w b T us) (h1 : T ≠ 127) (h2 : T ≠ 3) (h3 : T ≠ TPR) (h4 : T ≠ TPC) (h5 : T ≠ TPX) : Blk w' b T us := by
  obtain ⟨R', X', bs', hs, _⟩ := h
  refine hs.blk hg hb h1 h2 (fun hk => ?_)
  obtain ⟨T', ys, hb', hT⟩ := foot_types hr hk
  have := (hb.inj hb').1
  rcases hT with rfl | rfl | rfl <;> contradiction
end
set_option maxHeartbeats 4000000 in
set_option maxRecDepth 100000 in
theorem chain_do_get (B B' : Nat) (w : World) (g : Option Nat) (ks : List Int) (R : Nat → Option RecO) (X : Nat → Option ScxO) (bs : List Nat) (l : List (Int × Int)) (c : Nat) (key val hi : Int) (h : Chn B w R X bs l) (hg : GAtI w B' g ks) (hB : B' ≤ w.heap.size) (hBB : B ≤ w.heap.size) (hl : ks.length ≤ 600000000) (hll : l.length ≤ 1000000) (hc : Blk w c TCH [pv bs[0]?]) :
    Calls Try.prog 15 #[.pointer (some ⟨c, 0, none⟩), gvI g, .agg #[.int .i64 1, .int .i64 key, .int .i64 val, .int .i64 hi]] w fun e w' => e = .returned (.tuple #[.agg #[.bool (getV l key).2, .int .i64 0, .int .i64 (getV l key).1, .slice none 0 0], .int .i64 0]) ∧ ChStep B B' g w R X bs (ks ++ walkK l key) (l) w' := by
  refine calls_hide fun Q HQ => ?_
  have HQ' := Lib.hid HQ
  have ha := (Below.refl w.heap.size w).alloc (Nat.le_refl _) (.cells #[.int .i64 1, .int .i64 key, .int .i64 val, .int .i64 hi] TOP)
  have hb := ha.alloc ha.size (.cells #[.bool false, .int .i64 0, .int .i64 0, .slice none 0 0] TRT)
  have hb3 := hb.alloc hb.size (.cells #[.bool false, .int .i64 0, .int .i64 0, .slice none 0 0] TRT)
  have hq0 := Blk.new ((w.alloc (.cells #[.int .i64 1, .int .i64 key, .int .i64 val, .int .i64 hi] TOP)).alloc (.cells #[.bool false, .int .i64 0, .int .i64 0, .slice none 0 0] TRT)) TRT [.bool false, .int .i64 0, .int .i64 0, .slice none 0 0]
  have hr0 := (Blk.new (w.alloc (.cells #[.int .i64 1, .int .i64 key, .int .i64 val, .int .i64 hi] TOP)) TRT [.bool false, .int .i64 0, .int .i64 0, .slice none 0 0]).alloc (.cells #[.bool false, .int .i64 0, .int .i64 0, .slice none 0 0] TRT)
  have ho0 := ((Blk.new w TOP [.int .i64 1, .int .i64 key, .int .i64 val, .int .i64 hi]).alloc (.cells #[.bool false, .int .i64 0, .int .i64 0, .slice none 0 0] TRT)).alloc (.cells #[.bool false, .int .i64 0, .int .i64 0, .slice none 0 0] TRT)
  rw [World.size_alloc, World.size_alloc] at hq0
  rw [World.size_alloc] at hr0
  have o0 := ho0.cell 0
  have o1 := ho0.cell 1
  have o2 := ho0.cell 2
  have o3 := ho0.cell 3
  simp only [List.getElem?_cons_zero, List.getElem?_cons_succ] at o0 o1 o2 o3
  have hs0 := hg.below0 hb3 (fun _ => False)
  have HC := Lib.hid (h.below hb3)
  have HCC := Lib.hid (chain_get B B' (((w.alloc (.cells #[.int .i64 1, .int .i64 key, .int .i64 val, .int .i64 hi] TOP)).alloc (.cells #[.bool false, .int .i64 0, .int .i64 0, .slice none 0 0] TRT)).alloc (.cells #[.bool false, .int .i64 0, .int .i64 0, .slice none 0 0] TRT)) g ks R X bs l c key (h.below hb3) hs0.gate (Nat.le_trans hB hb3.size) hl hll (hc.below hb3 hc.lt))
  have HS0 := Lib.hid hs0
  have HQ0 := Lib.hid hq0
  have HR0 := Lib.hid hr0
  have HSZ0 := Lib.hid hb3.size
  clear HQ h hg hc ha hb hb3 hs0 hq0 hr0 ho0
  go_enter Try.func15, Try.ntmps15
  go_wp2_with fail
  clear o0 o1 o2 o3
  generalize ((w.alloc (.cells #[.int .i64 1, .int .i64 key, .int .i64 val, .int .i64 hi] 37)).alloc (.cells #[.bool false, .int .i64 0, .int .i64 0, .slice none 0 0] 39)).alloc (.cells #[.bool false, .int .i64 0, .int .i64 0, .slice none 0 0] 39) = w0 at *
  refine HCC.out.mono ?_
  rintro e w1 ⟨rfl, hst, hch⟩
  have HST := Lib.hid (ChStep.same hst hch)
  clear hst hch HCC
  generalize hok : (getV l key).2 = ok_ at *
  generalize hv : (getV l key).1 = v_ at *
  have HQ1 := Lib.hid (HST.out.blk HC.out.rep HS0.out.gate HQ0.out (by decide) (by decide) (by decide) (by decide) (by decide))
  have HR1 := Lib.hid (HST.out.blk HC.out.rep HS0.out.gate HR0.out (by decide) (by decide) (by decide) (by decide) (by decide))
  have HST1 := Lib.hid (ChStep.after HS0.out HST.out)
  clear HST HQ0 HR0 HS0 HC

  generalize hqb : w.heap.size + 1 + 1 = qb_ at *
  generalize hrb : w.heap.size + 1 = rb_ at *
  have HB2 := Lib.hid (And.intro hqb hrb)
  have hne : rb_ ≠ qb_ := by omega
  have hne2 := hne.symm
  clear hqb hrb
  have a0 := HQ1.out.cell 0
  have b0 := HR1.out.cell 0
  have az0 : w1.frozen? ⟨qb_, 0, none⟩ = false := HQ1.out.free _ rfl
  have bz0 : w1.frozen? ⟨rb_, 0, none⟩ = false := HR1.out.free _ rfl
  have a1 := HQ1.out.cell 1
  have b1 := HR1.out.cell 1
  have az1 : w1.frozen? ⟨qb_, 1, none⟩ = false := HQ1.out.free _ rfl
  have bz1 : w1.frozen? ⟨rb_, 1, none⟩ = false := HR1.out.free _ rfl
  have a2 := HQ1.out.cell 2
  have b2 := HR1.out.cell 2
  have az2 : w1.frozen? ⟨qb_, 2, none⟩ = false := HQ1.out.free _ rfl
  have bz2 : w1.frozen? ⟨rb_, 2, none⟩ = false := HR1.out.free _ rfl
  have a3 := HQ1.out.cell 3
  have b3 := HR1.out.cell 3
  have az3 : w1.frozen? ⟨qb_, 3, none⟩ = false := HQ1.out.free _ rfl
  have bz3 : w1.frozen? ⟨rb_, 3, none⟩ = false := HR1.out.free _ rfl
  simp only [List.getElem?_cons_zero, List.getElem?_cons_succ] at a0 a1 a2 a3 b0 b1 b2 b3
  have hf1 : Fr w1 ((w1.setCell ⟨qb_, 2, none⟩ (.int .i64 v_)).setCell ⟨qb_, 0, none⟩ (.bool ok_)) (fun k => k = qb_ ∨ k = rb_) := ((Fr.refl w1 (fun k => k = qb_ ∨ k = rb_)).setCell _ _ (fun _ => .inl rfl)).setCell _ _ (fun _ => .inl rfl)
  have hQ2 : Blk ((w1.setCell ⟨qb_, 2, none⟩ (.int .i64 v_)).setCell ⟨qb_, 0, none⟩ (.bool ok_)) qb_ TRT [.bool ok_, .int .i64 0, .int .i64 v_, .slice none 0 0] := (HQ1.out.set 2 (.int .i64 v_)).set 0 (.bool ok_)
  have hR2 : Blk ((w1.setCell ⟨qb_, 2, none⟩ (.int .i64 v_)).setCell ⟨qb_, 0, none⟩ (.bool ok_)) rb_ TRT [.bool false, .int .i64 0, .int .i64 0, .slice none 0 0] := (HR1.out.other _ _ hne).other _ _ hne
  have HW2 := Lib.hid hR2
  have HF1 := Lib.hid hf1
  have c0_ := hQ2.cell 0
  have d0_ := hR2.cell 0
  have c1_ := hQ2.cell 1
  have d1_ := hR2.cell 1
  have c2_ := hQ2.cell 2
  have d2_ := hR2.cell 2
  have c3_ := hQ2.cell 3
  have d3_ := hR2.cell 3
  simp only [List.getElem?_cons_zero, List.getElem?_cons_succ] at c0_ c1_ c2_ c3_ d0_ d1_ d2_ d3_
  clear hf1 hQ2 hR2
  go_wp2
  have hf2 := HF1.out
  have hfin : Fr w1 _ (fun k => k = qb_ ∨ k = rb_) := (((hf2.setCell ⟨rb_, 0, none⟩ (.bool ok_) (fun _ => .inr rfl)).setCell ⟨rb_, 1, none⟩ (.int .i64 0) (fun _ => .inr rfl)).setCell ⟨rb_, 2, none⟩ (.int .i64 v_) (fun _ => .inr rfl)).setCell ⟨rb_, 3, none⟩ (.slice none 0 0) (fun _ => .inr rfl)
  have hblk : Blk _ rb_ TRT [.bool ok_, .int .i64 0, .int .i64 v_, .slice none 0 0] := (((HW2.out.set 0 (.bool ok_)).set 1 (.int .i64 0)).set 2 (.int .i64 v_)).set 3 (.slice none 0 0)
  have hS : ∀ k, k = qb_ ∨ k = rb_ → w.heap.size ≤ k ∧ ∃ T ys, Blk w1 k T ys ∧ T = TRT := fun k hk => by
    have := HB2.out
    rcases hk with rfl | rfl
    · exact ⟨by omega, _, _, HQ1.out, rfl⟩
    · exact ⟨by omega, _, _, HR1.out, rfl⟩
  refine bodyPost_ret (results_ct rfl _ _ rb_ TRT _ (0, 0) _ rfl hblk Try.underlying39 rfl rtsize) rfl ?_
  exact HQ'.out _ _ ⟨rfl, HST1.out.new hfin (fun k hk => by obtain ⟨h1, T, ys, hy, rfl⟩ := hS k hk; exact ⟨h1, _, ys, hy, by decide, by decide, by decide, by decide, by decide⟩)⟩
set_option maxHeartbeats 4000000 in
set_option maxRecDepth 100000 in
theorem chain_do_put (B B' : Nat) (w : World) (g : Option Nat) (ks : List Int) (R : Nat → Option RecO) (X : Nat → Option ScxO) (bs : List Nat) (l : List (Int × Int)) (c : Nat) (key val hi : Int) (h : Chn B w R X bs l) (hg : GAtI w B' g ks) (hB : B' ≤ w.heap.size) (hBB : B ≤ w.heap.size) (hl : ks.length ≤ 600000000) (hll : l.length ≤ 1000000) (hc : Blk w c TCH [pv bs[0]?]) :
    Calls Try.prog 15 #[.pointer (some ⟨c, 0, none⟩), gvI g, .agg #[.int .i64 2, .int .i64 key, .int .i64 val, .int .i64 hi]] w fun e w' => e = .returned (.tuple #[.agg #[.bool (getV l key).2, .int .i64 0, .int .i64 (getV l key).1, .slice none 0 0], .int .i64 0]) ∧ ChStep B B' g w R X bs (ks ++ putK l key) (putL l key val) w' := by
  refine calls_hide fun Q HQ => ?_
  have HQ' := Lib.hid HQ
  have ha := (Below.refl w.heap.size w).alloc (Nat.le_refl _) (.cells #[.int .i64 2, .int .i64 key, .int .i64 val, .int .i64 hi] TOP)
  have hb := ha.alloc ha.size (.cells #[.bool false, .int .i64 0, .int .i64 0, .slice none 0 0] TRT)
  have hb3 := hb.alloc hb.size (.cells #[.bool false, .int .i64 0, .int .i64 0, .slice none 0 0] TRT)
  have hq0 := Blk.new ((w.alloc (.cells #[.int .i64 2, .int .i64 key, .int .i64 val, .int .i64 hi] TOP)).alloc (.cells #[.bool false, .int .i64 0, .int .i64 0, .slice none 0 0] TRT)) TRT [.bool false, .int .i64 0, .int .i64 0, .slice none 0 0]
  have hr0 := (Blk.new (w.alloc (.cells #[.int .i64 2, .int .i64 key, .int .i64 val, .int .i64 hi] TOP)) TRT [.bool false, .int .i64 0, .int .i64 0, .slice none 0 0]).alloc (.cells #[.bool false, .int .i64 0, .int .i64 0, .slice none 0 0] TRT)
  have ho0 := ((Blk.new w TOP [.int .i64 2, .int .i64 key, .int .i64 val, .int .i64 hi]).alloc (.cells #[.bool false, .int .i64 0, .int .i64 0, .slice none 0 0] TRT)).alloc (.cells #[.bool false, .int .i64 0, .int .i64 0, .slice none 0 0] TRT)
  rw [World.size_alloc, World.size_alloc] at hq0
  rw [World.size_alloc] at hr0
  have o0 := ho0.cell 0
  have o1 := ho0.cell 1
  have o2 := ho0.cell 2
  have o3 := ho0.cell 3
  simp only [List.getElem?_cons_zero, List.getElem?_cons_succ] at o0 o1 o2 o3
  have hs0 := hg.below0 hb3 (fun _ => False)
  have HC := Lib.hid (h.below hb3)
  have HCC := Lib.hid (chain_put B B' (((w.alloc (.cells #[.int .i64 2, .int .i64 key, .int .i64 val, .int .i64 hi] TOP)).alloc (.cells #[.bool false, .int .i64 0, .int .i64 0, .slice none 0 0] TRT)).alloc (.cells #[.bool false, .int .i64 0, .int .i64 0, .slice none 0 0] TRT)) g ks R X bs l c key val (h.below hb3) hs0.gate (Nat.le_trans hB hb3.size) (Nat.le_trans hBB hb3.size) hl hll (hc.below hb3 hc.lt))
  have HS0 := Lib.hid hs0
  have HQ0 := Lib.hid hq0
  have HR0 := Lib.hid hr0
  have HSZ0 := Lib.hid hb3.size
  clear HQ h hg hc ha hb hb3 hs0 hq0 hr0 ho0
  go_enter Try.func15, Try.ntmps15
  go_wp2_with fail
  clear o0 o1 o2 o3
  generalize ((w.alloc (.cells #[.int .i64 2, .int .i64 key, .int .i64 val, .int .i64 hi] 37)).alloc (.cells #[.bool false, .int .i64 0, .int .i64 0, .slice none 0 0] 39)).alloc (.cells #[.bool false, .int .i64 0, .int .i64 0, .slice none 0 0] 39) = w0 at *
  refine HCC.out.mono ?_
  rintro e w1 ⟨rfl, hst⟩
  have HST := Lib.hid hst
  clear hst HCC
  generalize hok : (getV l key).2 = ok_ at *
  generalize hv : (getV l key).1 = v_ at *
  have HQ1 := Lib.hid (HST.out.blk HC.out.rep HS0.out.gate HQ0.out (by decide) (by decide) (by decide) (by decide) (by decide))
  have HR1 := Lib.hid (HST.out.blk HC.out.rep HS0.out.gate HR0.out (by decide) (by decide) (by decide) (by decide) (by decide))
  have HST1 := Lib.hid (ChStep.after HS0.out HST.out)
  clear HST HQ0 HR0 HS0 HC

  generalize hqb : w.heap.size + 1 + 1 = qb_ at *
  generalize hrb : w.heap.size + 1 = rb_ at *
  have HB2 := Lib.hid (And.intro hqb hrb)
  have hne : rb_ ≠ qb_ := by omega
  have hne2 := hne.symm
  clear hqb hrb
  have a0 := HQ1.out.cell 0
  have b0 := HR1.out.cell 0
  have az0 : w1.frozen? ⟨qb_, 0, none⟩ = false := HQ1.out.free _ rfl
  have bz0 : w1.frozen? ⟨rb_, 0, none⟩ = false := HR1.out.free _ rfl
  have a1 := HQ1.out.cell 1
  have b1 := HR1.out.cell 1
  have az1 : w1.frozen? ⟨qb_, 1, none⟩ = false := HQ1.out.free _ rfl
  have bz1 : w1.frozen? ⟨rb_, 1, none⟩ = false := HR1.out.free _ rfl
  have a2 := HQ1.out.cell 2
  have b2 := HR1.out.cell 2
  have az2 : w1.frozen? ⟨qb_, 2, none⟩ = false := HQ1.out.free _ rfl
  have bz2 : w1.frozen? ⟨rb_, 2, none⟩ = false := HR1.out.free _ rfl
  have a3 := HQ1.out.cell 3
  have b3 := HR1.out.cell 3
  have az3 : w1.frozen? ⟨qb_, 3, none⟩ = false := HQ1.out.free _ rfl
  have bz3 : w1.frozen? ⟨rb_, 3, none⟩ = false := HR1.out.free _ rfl
  simp only [List.getElem?_cons_zero, List.getElem?_cons_succ] at a0 a1 a2 a3 b0 b1 b2 b3
  have hf1 : Fr w1 ((w1.setCell ⟨qb_, 2, none⟩ (.int .i64 v_)).setCell ⟨qb_, 0, none⟩ (.bool ok_)) (fun k => k = qb_ ∨ k = rb_) := ((Fr.refl w1 (fun k => k = qb_ ∨ k = rb_)).setCell _ _ (fun _ => .inl rfl)).setCell _ _ (fun _ => .inl rfl)
  have hQ2 : Blk ((w1.setCell ⟨qb_, 2, none⟩ (.int .i64 v_)).setCell ⟨qb_, 0, none⟩ (.bool ok_)) qb_ TRT [.bool ok_, .int .i64 0, .int .i64 v_, .slice none 0 0] := (HQ1.out.set 2 (.int .i64 v_)).set 0 (.bool ok_)
  have hR2 : Blk ((w1.setCell ⟨qb_, 2, none⟩ (.int .i64 v_)).setCell ⟨qb_, 0, none⟩ (.bool ok_)) rb_ TRT [.bool false, .int .i64 0, .int .i64 0, .slice none 0 0] := (HR1.out.other _ _ hne).other _ _ hne
  have HW2 := Lib.hid hR2
  have HF1 := Lib.hid hf1
  have c0_ := hQ2.cell 0
  have d0_ := hR2.cell 0
  have c1_ := hQ2.cell 1
  have d1_ := hR2.cell 1
  have c2_ := hQ2.cell 2
  have d2_ := hR2.cell 2
  have c3_ := hQ2.cell 3
  have d3_ := hR2.cell 3
  simp only [List.getElem?_cons_zero, List.getElem?_cons_succ] at c0_ c1_ c2_ c3_ d0_ d1_ d2_ d3_
  clear hf1 hQ2 hR2
  go_wp2
  have hf2 := HF1.out
  have hfin : Fr w1 _ (fun k => k = qb_ ∨ k = rb_) := (((hf2.setCell ⟨rb_, 0, none⟩ (.bool ok_) (fun _ => .inr rfl)).setCell ⟨rb_, 1, none⟩ (.int .i64 0) (fun _ => .inr rfl)).setCell ⟨rb_, 2, none⟩ (.int .i64 v_) (fun _ => .inr rfl)).setCell ⟨rb_, 3, none⟩ (.slice none 0 0) (fun _ => .inr rfl)
  have hblk : Blk _ rb_ TRT [.bool ok_, .int .i64 0, .int .i64 v_, .slice none 0 0] := (((HW2.out.set 0 (.bool ok_)).set 1 (.int .i64 0)).set 2 (.int .i64 v_)).set 3 (.slice none 0 0)
  have hS : ∀ k, k = qb_ ∨ k = rb_ → w.heap.size ≤ k ∧ ∃ T ys, Blk w1 k T ys ∧ T = TRT := fun k hk => by
    have := HB2.out
    rcases hk with rfl | rfl
    · exact ⟨by omega, _, _, HQ1.out, rfl⟩
    · exact ⟨by omega, _, _, HR1.out, rfl⟩
  refine bodyPost_ret (results_ct rfl _ _ rb_ TRT _ (0, 0) _ rfl hblk Try.underlying39 rfl rtsize) rfl ?_
  exact HQ'.out _ _ ⟨rfl, HST1.out.new hfin (fun k hk => by obtain ⟨h1, T, ys, hy, rfl⟩ := hS k hk; exact ⟨h1, _, ys, hy, by decide, by decide, by decide, by decide, by decide⟩)⟩
set_option maxHeartbeats 4000000 in
set_option maxRecDepth 100000 in
theorem chain_do_add (B B' : Nat) (w : World) (g : Option Nat) (ks : List Int) (R : Nat → Option RecO) (X : Nat → Option ScxO) (bs : List Nat) (l : List (Int × Int)) (c : Nat) (key val hi : Int) (h : Chn B w R X bs l) (hg : GAtI w B' g ks) (hB : B' ≤ w.heap.size) (hBB : B ≤ w.heap.size) (hl : ks.length ≤ 600000000) (hll : l.length ≤ 1000000) (hc : Blk w c TCH [pv bs[0]?]) :
    Calls Try.prog 15 #[.pointer (some ⟨c, 0, none⟩), gvI g, .agg #[.int .i64 3, .int .i64 key, .int .i64 val, .int .i64 hi]] w fun e w' => e = .returned (.tuple #[.agg #[.bool (!(getV l key).2), .int .i64 0, .int .i64 (getV l key).1, .slice none 0 0], .int .i64 0]) ∧ ChStep B B' g w R X bs (ks ++ addK l key) (addL l key val) w' := by
  refine calls_hide fun Q HQ => ?_
  have HQ' := Lib.hid HQ
  have ha := (Below.refl w.heap.size w).alloc (Nat.le_refl _) (.cells #[.int .i64 3, .int .i64 key, .int .i64 val, .int .i64 hi] TOP)
  have hb := ha.alloc ha.size (.cells #[.bool false, .int .i64 0, .int .i64 0, .slice none 0 0] TRT)
  have hb3 := hb.alloc hb.size (.cells #[.bool false, .int .i64 0, .int .i64 0, .slice none 0 0] TRT)
  have hq0 := Blk.new ((w.alloc (.cells #[.int .i64 3, .int .i64 key, .int .i64 val, .int .i64 hi] TOP)).alloc (.cells #[.bool false, .int .i64 0, .int .i64 0, .slice none 0 0] TRT)) TRT [.bool false, .int .i64 0, .int .i64 0, .slice none 0 0]
  have hr0 := (Blk.new (w.alloc (.cells #[.int .i64 3, .int .i64 key, .int .i64 val, .int .i64 hi] TOP)) TRT [.bool false, .int .i64 0, .int .i64 0, .slice none 0 0]).alloc (.cells #[.bool false, .int .i64 0, .int .i64 0, .slice none 0 0] TRT)
  have ho0 := ((Blk.new w TOP [.int .i64 3, .int .i64 key, .int .i64 val, .int .i64 hi]).alloc (.cells #[.bool false, .int .i64 0, .int .i64 0, .slice none 0 0] TRT)).alloc (.cells #[.bool false, .int .i64 0, .int .i64 0, .slice none 0 0] TRT)
  rw [World.size_alloc, World.size_alloc] at hq0
  rw [World.size_alloc] at hr0
  have o0 := ho0.cell 0
  have o1 := ho0.cell 1
  have o2 := ho0.cell 2
  have o3 := ho0.cell 3
  simp only [List.getElem?_cons_zero, List.getElem?_cons_succ] at o0 o1 o2 o3
  have hs0 := hg.below0 hb3 (fun _ => False)
  have HC := Lib.hid (h.below hb3)
  have HCC := Lib.hid (chain_add B B' (((w.alloc (.cells #[.int .i64 3, .int .i64 key, .int .i64 val, .int .i64 hi] TOP)).alloc (.cells #[.bool false, .int .i64 0, .int .i64 0, .slice none 0 0] TRT)).alloc (.cells #[.bool false, .int .i64 0, .int .i64 0, .slice none 0 0] TRT)) g ks R X bs l c key val (h.below hb3) hs0.gate (Nat.le_trans hB hb3.size) (Nat.le_trans hBB hb3.size) hl hll (hc.below hb3 hc.lt))
  have HS0 := Lib.hid hs0
  have HQ0 := Lib.hid hq0
  have HR0 := Lib.hid hr0
  have HSZ0 := Lib.hid hb3.size
  clear HQ h hg hc ha hb hb3 hs0 hq0 hr0 ho0
  go_enter Try.func15, Try.ntmps15
  go_wp2_with fail
  clear o0 o1 o2 o3
  generalize ((w.alloc (.cells #[.int .i64 3, .int .i64 key, .int .i64 val, .int .i64 hi] 37)).alloc (.cells #[.bool false, .int .i64 0, .int .i64 0, .slice none 0 0] 39)).alloc (.cells #[.bool false, .int .i64 0, .int .i64 0, .slice none 0 0] 39) = w0 at *
  refine HCC.out.mono ?_
  rintro e w1 ⟨rfl, hst⟩
  have HST := Lib.hid hst
  clear hst HCC
  generalize hok : (!(getV l key).2) = ok_ at *
  generalize hv : (getV l key).1 = v_ at *
  have HQ1 := Lib.hid (HST.out.blk HC.out.rep HS0.out.gate HQ0.out (by decide) (by decide) (by decide) (by decide) (by decide))
  have HR1 := Lib.hid (HST.out.blk HC.out.rep HS0.out.gate HR0.out (by decide) (by decide) (by decide) (by decide) (by decide))
  have HST1 := Lib.hid (ChStep.after HS0.out HST.out)
  clear HST HQ0 HR0 HS0 HC

  generalize hqb : w.heap.size + 1 + 1 = qb_ at *
  generalize hrb : w.heap.size + 1 = rb_ at *
  have HB2 := Lib.hid (And.intro hqb hrb)
  have hne : rb_ ≠ qb_ := by omega
  have hne2 := hne.symm
  clear hqb hrb
  have a0 := HQ1.out.cell 0
  have b0 := HR1.out.cell 0
  have az0 : w1.frozen? ⟨qb_, 0, none⟩ = false := HQ1.out.free _ rfl
  have bz0 : w1.frozen? ⟨rb_, 0, none⟩ = false := HR1.out.free _ rfl
  have a1 := HQ1.out.cell 1
  have b1 := HR1.out.cell 1
  have az1 : w1.frozen? ⟨qb_, 1, none⟩ = false := HQ1.out.free _ rfl
  have bz1 : w1.frozen? ⟨rb_, 1, none⟩ = false := HR1.out.free _ rfl
  have a2 := HQ1.out.cell 2
  have b2 := HR1.out.cell 2
  have az2 : w1.frozen? ⟨qb_, 2, none⟩ = false := HQ1.out.free _ rfl
  have bz2 : w1.frozen? ⟨rb_, 2, none⟩ = false := HR1.out.free _ rfl
  have a3 := HQ1.out.cell 3
  have b3 := HR1.out.cell 3
  have az3 : w1.frozen? ⟨qb_, 3, none⟩ = false := HQ1.out.free _ rfl
  have bz3 : w1.frozen? ⟨rb_, 3, none⟩ = false := HR1.out.free _ rfl
  simp only [List.getElem?_cons_zero, List.getElem?_cons_succ] at a0 a1 a2 a3 b0 b1 b2 b3
  have hf1 : Fr w1 ((w1.setCell ⟨qb_, 2, none⟩ (.int .i64 v_)).setCell ⟨qb_, 0, none⟩ (.bool ok_)) (fun k => k = qb_ ∨ k = rb_) := ((Fr.refl w1 (fun k => k = qb_ ∨ k = rb_)).setCell _ _ (fun _ => .inl rfl)).setCell _ _ (fun _ => .inl rfl)
  have hQ2 : Blk ((w1.setCell ⟨qb_, 2, none⟩ (.int .i64 v_)).setCell ⟨qb_, 0, none⟩ (.bool ok_)) qb_ TRT [.bool ok_, .int .i64 0, .int .i64 v_, .slice none 0 0] := (HQ1.out.set 2 (.int .i64 v_)).set 0 (.bool ok_)
  have hR2 : Blk ((w1.setCell ⟨qb_, 2, none⟩ (.int .i64 v_)).setCell ⟨qb_, 0, none⟩ (.bool ok_)) rb_ TRT [.bool false, .int .i64 0, .int .i64 0, .slice none 0 0] := (HR1.out.other _ _ hne).other _ _ hne
  have HW2 := Lib.hid hR2
  have HF1 := Lib.hid hf1
  have c0_ := hQ2.cell 0
  have d0_ := hR2.cell 0
  have c1_ := hQ2.cell 1
  have d1_ := hR2.cell 1
  have c2_ := hQ2.cell 2
  have d2_ := hR2.cell 2
  have c3_ := hQ2.cell 3
  have d3_ := hR2.cell 3
  simp only [List.getElem?_cons_zero, List.getElem?_cons_succ] at c0_ c1_ c2_ c3_ d0_ d1_ d2_ d3_
  clear hf1 hQ2 hR2
  go_wp2
  have hf2 := HF1.out
  have hfin : Fr w1 _ (fun k => k = qb_ ∨ k = rb_) := (((hf2.setCell ⟨rb_, 0, none⟩ (.bool ok_) (fun _ => .inr rfl)).setCell ⟨rb_, 1, none⟩ (.int .i64 0) (fun _ => .inr rfl)).setCell ⟨rb_, 2, none⟩ (.int .i64 v_) (fun _ => .inr rfl)).setCell ⟨rb_, 3, none⟩ (.slice none 0 0) (fun _ => .inr rfl)
  have hblk : Blk _ rb_ TRT [.bool ok_, .int .i64 0, .int .i64 v_, .slice none 0 0] := (((HW2.out.set 0 (.bool ok_)).set 1 (.int .i64 0)).set 2 (.int .i64 v_)).set 3 (.slice none 0 0)
  have hS : ∀ k, k = qb_ ∨ k = rb_ → w.heap.size ≤ k ∧ ∃ T ys, Blk w1 k T ys ∧ T = TRT := fun k hk => by
    have := HB2.out
    rcases hk with rfl | rfl
    · exact ⟨by omega, _, _, HQ1.out, rfl⟩
    · exact ⟨by omega, _, _, HR1.out, rfl⟩
  refine bodyPost_ret (results_ct rfl _ _ rb_ TRT _ (0, 0) _ rfl hblk Try.underlying39 rfl rtsize) rfl ?_
  exact HQ'.out _ _ ⟨rfl, HST1.out.new hfin (fun k hk => by obtain ⟨h1, T, ys, hy, rfl⟩ := hS k hk; exact ⟨h1, _, ys, hy, by decide, by decide, by decide, by decide, by decide⟩)⟩
set_option maxHeartbeats 4000000 in
set_option maxRecDepth 100000 in
theorem chain_do_delete (B B' : Nat) (w : World) (g : Option Nat) (ks : List Int) (R : Nat → Option RecO) (X : Nat → Option ScxO) (bs : List Nat) (l : List (Int × Int)) (c : Nat) (key val hi : Int) (h : Chn B w R X bs l) (hg : GAtI w B' g ks) (hB : B' ≤ w.heap.size) (hBB : B ≤ w.heap.size) (hl : ks.length ≤ 600000000) (hll : l.length ≤ 1000000) (hc : Blk w c TCH [pv bs[0]?]) :
    Calls Try.prog 15 #[.pointer (some ⟨c, 0, none⟩), gvI g, .agg #[.int .i64 4, .int .i64 key, .int .i64 val, .int .i64 hi]] w fun e w' => e = .returned (.tuple #[.agg #[.bool (getV l key).2, .int .i64 0, .int .i64 (getV l key).1, .slice none 0 0], .int .i64 0]) ∧ ChStep B B' g w R X bs (ks ++ delK l key) (delL l key) w' := by
  refine calls_hide fun Q HQ => ?_
  have HQ' := Lib.hid HQ
  have ha := (Below.refl w.heap.size w).alloc (Nat.le_refl _) (.cells #[.int .i64 4, .int .i64 key, .int .i64 val, .int .i64 hi] TOP)
  have hb := ha.alloc ha.size (.cells #[.bool false, .int .i64 0, .int .i64 0, .slice none 0 0] TRT)
  have hb3 := hb.alloc hb.size (.cells #[.bool false, .int .i64 0, .int .i64 0, .slice none 0 0] TRT)
  have hq0 := Blk.new ((w.alloc (.cells #[.int .i64 4, .int .i64 key, .int .i64 val, .int .i64 hi] TOP)).alloc (.cells #[.bool false, .int .i64 0, .int .i64 0, .slice none 0 0] TRT)) TRT [.bool false, .int .i64 0, .int .i64 0, .slice none 0 0]
  have hr0 := (Blk.new (w.alloc (.cells #[.int .i64 4, .int .i64 key, .int .i64 val, .int .i64 hi] TOP)) TRT [.bool false, .int .i64 0, .int .i64 0, .slice none 0 0]).alloc (.cells #[.bool false, .int .i64 0, .int .i64 0, .slice none 0 0] TRT)
  have ho0 := ((Blk.new w TOP [.int .i64 4, .int .i64 key, .int .i64 val, .int .i64 hi]).alloc (.cells #[.bool false, .int .i64 0, .int .i64 0, .slice none 0 0] TRT)).alloc (.cells #[.bool false, .int .i64 0, .int .i64 0, .slice none 0 0] TRT)
  rw [World.size_alloc, World.size_alloc] at hq0
  rw [World.size_alloc] at hr0
  have o0 := ho0.cell 0
  have o1 := ho0.cell 1
  have o2 := ho0.cell 2
  have o3 := ho0.cell 3
  simp only [List.getElem?_cons_zero, List.getElem?_cons_succ] at o0 o1 o2 o3
  have hs0 := hg.below0 hb3 (fun _ => False)
  have HC := Lib.hid (h.below hb3)
  have HCC := Lib.hid (chain_delete B B' (((w.alloc (.cells #[.int .i64 4, .int .i64 key, .int .i64 val, .int .i64 hi] TOP)).alloc (.cells #[.bool false, .int .i64 0, .int .i64 0, .slice none 0 0] TRT)).alloc (.cells #[.bool false, .int .i64 0, .int .i64 0, .slice none 0 0] TRT)) g ks R X bs l c key (h.below hb3) hs0.gate (Nat.le_trans hB hb3.size) (Nat.le_trans hBB hb3.size) hl hll (hc.below hb3 hc.lt))
  have HS0 := Lib.hid hs0
  have HQ0 := Lib.hid hq0
  have HR0 := Lib.hid hr0
  have HSZ0 := Lib.hid hb3.size
  clear HQ h hg hc ha hb hb3 hs0 hq0 hr0 ho0
  go_enter Try.func15, Try.ntmps15
  go_wp2_with fail
  clear o0 o1 o2 o3
  generalize ((w.alloc (.cells #[.int .i64 4, .int .i64 key, .int .i64 val, .int .i64 hi] 37)).alloc (.cells #[.bool false, .int .i64 0, .int .i64 0, .slice none 0 0] 39)).alloc (.cells #[.bool false, .int .i64 0, .int .i64 0, .slice none 0 0] 39) = w0 at *
  refine HCC.out.mono ?_
  rintro e w1 ⟨rfl, hst⟩
  have HST := Lib.hid hst
  clear hst HCC
  generalize hok : (getV l key).2 = ok_ at *
  generalize hv : (getV l key).1 = v_ at *
  have HQ1 := Lib.hid (HST.out.blk HC.out.rep HS0.out.gate HQ0.out (by decide) (by decide) (by decide) (by decide) (by decide))
  have HR1 := Lib.hid (HST.out.blk HC.out.rep HS0.out.gate HR0.out (by decide) (by decide) (by decide) (by decide) (by decide))
  have HST1 := Lib.hid (ChStep.after HS0.out HST.out)
  clear HST HQ0 HR0 HS0 HC

  generalize hqb : w.heap.size + 1 + 1 = qb_ at *
  generalize hrb : w.heap.size + 1 = rb_ at *
  have HB2 := Lib.hid (And.intro hqb hrb)
  have hne : rb_ ≠ qb_ := by omega
  have hne2 := hne.symm
  clear hqb hrb
  have a0 := HQ1.out.cell 0
  have b0 := HR1.out.cell 0
  have az0 : w1.frozen? ⟨qb_, 0, none⟩ = false := HQ1.out.free _ rfl
  have bz0 : w1.frozen? ⟨rb_, 0, none⟩ = false := HR1.out.free _ rfl
  have a1 := HQ1.out.cell 1
  have b1 := HR1.out.cell 1
  have az1 : w1.frozen? ⟨qb_, 1, none⟩ = false := HQ1.out.free _ rfl
  have bz1 : w1.frozen? ⟨rb_, 1, none⟩ = false := HR1.out.free _ rfl
  have a2 := HQ1.out.cell 2
  have b2 := HR1.out.cell 2
  have az2 : w1.frozen? ⟨qb_, 2, none⟩ = false := HQ1.out.free _ rfl
  have bz2 : w1.frozen? ⟨rb_, 2, none⟩ = false := HR1.out.free _ rfl
  have a3 := HQ1.out.cell 3
  have b3 := HR1.out.cell 3
  have az3 : w1.frozen? ⟨qb_, 3, none⟩ = false := HQ1.out.free _ rfl
  have bz3 : w1.frozen? ⟨rb_, 3, none⟩ = false := HR1.out.free _ rfl
  simp only [List.getElem?_cons_zero, List.getElem?_cons_succ] at a0 a1 a2 a3 b0 b1 b2 b3
  have hf1 : Fr w1 ((w1.setCell ⟨qb_, 2, none⟩ (.int .i64 v_)).setCell ⟨qb_, 0, none⟩ (.bool ok_)) (fun k => k = qb_ ∨ k = rb_) := ((Fr.refl w1 (fun k => k = qb_ ∨ k = rb_)).setCell _ _ (fun _ => .inl rfl)).setCell _ _ (fun _ => .inl rfl)
  have hQ2 : Blk ((w1.setCell ⟨qb_, 2, none⟩ (.int .i64 v_)).setCell ⟨qb_, 0, none⟩ (.bool ok_)) qb_ TRT [.bool ok_, .int .i64 0, .int .i64 v_, .slice none 0 0] := (HQ1.out.set 2 (.int .i64 v_)).set 0 (.bool ok_)
  have hR2 : Blk ((w1.setCell ⟨qb_, 2, none⟩ (.int .i64 v_)).setCell ⟨qb_, 0, none⟩ (.bool ok_)) rb_ TRT [.bool false, .int .i64 0, .int .i64 0, .slice none 0 0] := (HR1.out.other _ _ hne).other _ _ hne
  have HW2 := Lib.hid hR2
  have HF1 := Lib.hid hf1
  have c0_ := hQ2.cell 0
  have d0_ := hR2.cell 0
  have c1_ := hQ2.cell 1
  have d1_ := hR2.cell 1
  have c2_ := hQ2.cell 2
  have d2_ := hR2.cell 2
  have c3_ := hQ2.cell 3
  have d3_ := hR2.cell 3
  simp only [List.getElem?_cons_zero, List.getElem?_cons_succ] at c0_ c1_ c2_ c3_ d0_ d1_ d2_ d3_
  clear hf1 hQ2 hR2
  go_wp2
  have hf2 := HF1.out
  have hfin : Fr w1 _ (fun k => k = qb_ ∨ k = rb_) := (((hf2.setCell ⟨rb_, 0, none⟩ (.bool ok_) (fun _ => .inr rfl)).setCell ⟨rb_, 1, none⟩ (.int .i64 0) (fun _ => .inr rfl)).setCell ⟨rb_, 2, none⟩ (.int .i64 v_) (fun _ => .inr rfl)).setCell ⟨rb_, 3, none⟩ (.slice none 0 0) (fun _ => .inr rfl)
  have hblk : Blk _ rb_ TRT [.bool ok_, .int .i64 0, .int .i64 v_, .slice none 0 0] := (((HW2.out.set 0 (.bool ok_)).set 1 (.int .i64 0)).set 2 (.int .i64 v_)).set 3 (.slice none 0 0)
  have hS : ∀ k, k = qb_ ∨ k = rb_ → w.heap.size ≤ k ∧ ∃ T ys, Blk w1 k T ys ∧ T = TRT := fun k hk => by
    have := HB2.out
    rcases hk with rfl | rfl
    · exact ⟨by omega, _, _, HQ1.out, rfl⟩
    · exact ⟨by omega, _, _, HR1.out, rfl⟩
  refine bodyPost_ret (results_ct rfl _ _ rb_ TRT _ (0, 0) _ rfl hblk Try.underlying39 rfl rtsize) rfl ?_
  exact HQ'.out _ _ ⟨rfl, HST1.out.new hfin (fun k hk => by obtain ⟨h1, T, ys, hy, rfl⟩ := hS k hk; exact ⟨h1, _, ys, hy, by decide, by decide, by decide, by decide, by decide⟩)⟩
set_option maxHeartbeats 4000000 in
set_option maxRecDepth 100000 in
theorem chain_do_range (B B' : Nat) (w : World) (g : Option Nat) (ks : List Int) (R : Nat → Option RecO) (X : Nat → Option ScxO) (bs : List Nat) (l : List (Int × Int)) (c : Nat) (key val hi : Int) (h : Chn B w R X bs l) (hg : GAtI w B' g ks) (hB : B' ≤ w.heap.size) (hBB : B ≤ w.heap.size) (hl : ks.length ≤ 600000000) (hll : l.length ≤ 1000000) (hc : Blk w c TCH [pv bs[0]?]) :
    Calls Try.prog 15 #[.pointer (some ⟨c, 0, none⟩), gvI g, .agg #[.int .i64 9, .int .i64 key, .int .i64 val, .int .i64 hi]] w fun e w' => ∃ pv_, e = .returned (.tuple #[.agg #[.bool true, .int .i64 0, .int .i64 0, pv_], .int .i64 0]) ∧ ChStep B B' g w R X bs (ks ++ rangeK l key hi) l w' ∧ w'.ownsRow w.heap.size TPA 2 pv_ (rangeL l key hi).length ((rangeL l key hi).flatMap pcells) := by
  refine calls_hide fun Q HQ => ?_
  have HQ' := Lib.hid HQ
  have ha := (Below.refl w.heap.size w).alloc (Nat.le_refl _) (.cells #[.int .i64 9, .int .i64 key, .int .i64 val, .int .i64 hi] TOP)
  have hb := ha.alloc ha.size (.cells #[.bool false, .int .i64 0, .int .i64 0, .slice none 0 0] TRT)
  have hb3 := hb.alloc hb.size (.cells #[.bool false, .int .i64 0, .int .i64 0, .slice none 0 0] TRT)
  have hq0 := Blk.new ((w.alloc (.cells #[.int .i64 9, .int .i64 key, .int .i64 val, .int .i64 hi] TOP)).alloc (.cells #[.bool false, .int .i64 0, .int .i64 0, .slice none 0 0] TRT)) TRT [.bool false, .int .i64 0, .int .i64 0, .slice none 0 0]
  have hr0 := (Blk.new (w.alloc (.cells #[.int .i64 9, .int .i64 key, .int .i64 val, .int .i64 hi] TOP)) TRT [.bool false, .int .i64 0, .int .i64 0, .slice none 0 0]).alloc (.cells #[.bool false, .int .i64 0, .int .i64 0, .slice none 0 0] TRT)
  have ho0 := ((Blk.new w TOP [.int .i64 9, .int .i64 key, .int .i64 val, .int .i64 hi]).alloc (.cells #[.bool false, .int .i64 0, .int .i64 0, .slice none 0 0] TRT)).alloc (.cells #[.bool false, .int .i64 0, .int .i64 0, .slice none 0 0] TRT)
  rw [World.size_alloc, World.size_alloc] at hq0
  rw [World.size_alloc] at hr0
  have o0 := ho0.cell 0
  have o1 := ho0.cell 1
  have o2 := ho0.cell 2
  have o3 := ho0.cell 3
  simp only [List.getElem?_cons_zero, List.getElem?_cons_succ] at o0 o1 o2 o3
  have hs0 := hg.below0 hb3 (fun _ => False)
  have HC := Lib.hid (h.below hb3)
  have HCC := Lib.hid (chain_range B B' (((w.alloc (.cells #[.int .i64 9, .int .i64 key, .int .i64 val, .int .i64 hi] TOP)).alloc (.cells #[.bool false, .int .i64 0, .int .i64 0, .slice none 0 0] TRT)).alloc (.cells #[.bool false, .int .i64 0, .int .i64 0, .slice none 0 0] TRT)) g ks R X bs l c key hi (h.below hb3) hs0.gate (Nat.le_trans hB hb3.size) hl hll (hc.below hb3 hc.lt))
  have HS0 := Lib.hid hs0
  have HQ0 := Lib.hid hq0
  have HR0 := Lib.hid hr0
  have HSZ0 := Lib.hid hb3.size
  clear HQ h hg hc ha hb hb3 hs0 hq0 hr0 ho0
  go_enter Try.func15, Try.ntmps15
  go_wp2_with fail
  clear o0 o1 o2 o3
  generalize ((w.alloc (.cells #[.int .i64 9, .int .i64 key, .int .i64 val, .int .i64 hi] 37)).alloc (.cells #[.bool false, .int .i64 0, .int .i64 0, .slice none 0 0] 39)).alloc (.cells #[.bool false, .int .i64 0, .int .i64 0, .slice none 0 0] 39) = w0 at *
  refine HCC.out.mono ?_
  rintro e w1 ⟨pv_, rfl, hown, hst, hch⟩
  have HST := Lib.hid (ChStep.same hst hch)
  have HOWN := Lib.hid (Go.Proofs.YteeficpjggimcaaW.PrintWords.own_weaken hown HSZ0.out)
  obtain ⟨A4, c4, e4⟩ : ∃ A n c, pv_ = .slice A n c := by
    rcases hown.2 with ⟨e, _⟩ | ⟨g9, cap, cur, e, _⟩ <;> exact ⟨_, _, _, e⟩
  obtain ⟨c5, e4⟩ := e4
  subst e4
  clear hst hch hown HCC
  have HQ1 := Lib.hid (HST.out.blk HC.out.rep HS0.out.gate HQ0.out (by decide) (by decide) (by decide) (by decide) (by decide))
  have HR1 := Lib.hid (HST.out.blk HC.out.rep HS0.out.gate HR0.out (by decide) (by decide) (by decide) (by decide) (by decide))
  have HST1 := Lib.hid (ChStep.after HS0.out HST.out)
  clear HST HQ0 HR0 HS0 HC

  generalize hqb : w.heap.size + 1 + 1 = qb_ at *
  generalize hrb : w.heap.size + 1 = rb_ at *
  have HB2 := Lib.hid (And.intro hqb hrb)
  have hne : rb_ ≠ qb_ := by omega
  have hne2 := hne.symm
  clear hqb hrb
  have a0 := HQ1.out.cell 0
  have b0 := HR1.out.cell 0
  have az0 : w1.frozen? ⟨qb_, 0, none⟩ = false := HQ1.out.free _ rfl
  have bz0 : w1.frozen? ⟨rb_, 0, none⟩ = false := HR1.out.free _ rfl
  have a1 := HQ1.out.cell 1
  have b1 := HR1.out.cell 1
  have az1 : w1.frozen? ⟨qb_, 1, none⟩ = false := HQ1.out.free _ rfl
  have bz1 : w1.frozen? ⟨rb_, 1, none⟩ = false := HR1.out.free _ rfl
  have a2 := HQ1.out.cell 2
  have b2 := HR1.out.cell 2
  have az2 : w1.frozen? ⟨qb_, 2, none⟩ = false := HQ1.out.free _ rfl
  have bz2 : w1.frozen? ⟨rb_, 2, none⟩ = false := HR1.out.free _ rfl
  have a3 := HQ1.out.cell 3
  have b3 := HR1.out.cell 3
  have az3 : w1.frozen? ⟨qb_, 3, none⟩ = false := HQ1.out.free _ rfl
  have bz3 : w1.frozen? ⟨rb_, 3, none⟩ = false := HR1.out.free _ rfl
  simp only [List.getElem?_cons_zero, List.getElem?_cons_succ] at a0 a1 a2 a3 b0 b1 b2 b3
  have hf1 : Fr w1 ((w1.setCell ⟨qb_, 3, none⟩ (.slice A4 c4 c5)).setCell ⟨qb_, 0, none⟩ (.bool true)) (fun k => k = qb_ ∨ k = rb_) := ((Fr.refl w1 (fun k => k = qb_ ∨ k = rb_)).setCell _ _ (fun _ => .inl rfl)).setCell _ _ (fun _ => .inl rfl)
  have hQ2 : Blk ((w1.setCell ⟨qb_, 3, none⟩ (.slice A4 c4 c5)).setCell ⟨qb_, 0, none⟩ (.bool true)) qb_ TRT [.bool true, .int .i64 0, .int .i64 0, .slice A4 c4 c5] := (HQ1.out.set 3 (.slice A4 c4 c5)).set 0 (.bool true)
  have hR2 : Blk ((w1.setCell ⟨qb_, 3, none⟩ (.slice A4 c4 c5)).setCell ⟨qb_, 0, none⟩ (.bool true)) rb_ TRT [.bool false, .int .i64 0, .int .i64 0, .slice none 0 0] := (HR1.out.other _ _ hne).other _ _ hne
  have HW2 := Lib.hid hR2
  have HF1 := Lib.hid hf1
  have c0_ := hQ2.cell 0
  have d0_ := hR2.cell 0
  have c1_ := hQ2.cell 1
  have d1_ := hR2.cell 1
  have c2_ := hQ2.cell 2
  have d2_ := hR2.cell 2
  have c3_ := hQ2.cell 3
  have d3_ := hR2.cell 3
  simp only [List.getElem?_cons_zero, List.getElem?_cons_succ] at c0_ c1_ c2_ c3_ d0_ d1_ d2_ d3_
  clear hf1 hQ2 hR2
  go_wp2
  have hf2 := HF1.out
  have hfin : Fr w1 _ (fun k => k = qb_ ∨ k = rb_) := (((hf2.setCell ⟨rb_, 0, none⟩ (.bool true) (fun _ => .inr rfl)).setCell ⟨rb_, 1, none⟩ (.int .i64 0) (fun _ => .inr rfl)).setCell ⟨rb_, 2, none⟩ (.int .i64 0) (fun _ => .inr rfl)).setCell ⟨rb_, 3, none⟩ (.slice A4 c4 c5) (fun _ => .inr rfl)
  have hblk : Blk _ rb_ TRT [.bool true, .int .i64 0, .int .i64 0, .slice A4 c4 c5] := (((HW2.out.set 0 (.bool true)).set 1 (.int .i64 0)).set 2 (.int .i64 0)).set 3 (.slice A4 c4 c5)
  have hS : ∀ k, k = qb_ ∨ k = rb_ → w.heap.size ≤ k ∧ ∃ T ys, Blk w1 k T ys ∧ T = TRT := fun k hk => by
    have := HB2.out
    rcases hk with rfl | rfl
    · exact ⟨by omega, _, _, HQ1.out, rfl⟩
    · exact ⟨by omega, _, _, HR1.out, rfl⟩
  refine bodyPost_ret (results_ct rfl _ _ rb_ TRT _ (0, 0) _ rfl hblk Try.underlying39 rfl rtsize) rfl ?_
  exact HQ'.out _ _ ⟨_, rfl, HST1.out.new hfin (fun k hk => by obtain ⟨h1, T, ys, hy, rfl⟩ := hS k hk; exact ⟨h1, _, ys, hy, by decide, by decide, by decide, by decide, by decide⟩), Go.Proofs.YteeficpjggimcaaW.PrintWords.own_move HOWN.out (fun k hk => hfin.block k (World.ownsRow.lt HOWN.out k hk).2 (fun hx => by
    obtain ⟨_, T, ys, hy, rfl⟩ := hS k hx
    obtain ⟨zs, hz⟩ := owns_typed' HOWN.out k hk
    exact absurd (hy.inj hz).1 (by decide)))⟩
end Go.Proofs.Yteeficpjggimcaa

/- chain: New. -/
namespace Go.Proofs.Yteeficpjggimcaa
open Go.RowKit Go.Proofs.YteeficpjggimcaaW.PrintWords Go.Proofs.YteeficpjggimcaaW.PrintLast Go.Proofs.Yteeficpjggimcaa.PChainCalls
set_option linter.unusedVariables false
set_option linter.unusedSimpArgs false

abbrev SP := S56
def pr (p : SP) : Int × Int := (p.f0, p.f1)
/-- A list that wants its head. -/
structure Sfx (B : Nat) (w : World) (R : Nat → Option RecO) (X : Nat → Option ScxO) (bs : List Nat) (ps : List (Int × Int)) : Prop where
  rep : RepapiPair w R X
  len : bs.length = ps.length
  nd : bs.Nodup
  at_ : ∀ (i b : Nat), bs[i]? = some b → ∃ fb x o, R b = some ⟨[.int .i64 (ps.getD i (0, 0)).1, .int .i64 (ps.getD i (0, 0)).2], fb, (bs[i + 1]?).toList.map some, some x, false⟩ ∧ X x = some o ∧ (o.state = 1 ∨ o.state = 2)
  lo : ∀ k, RFoot R X k → B ≤ k
section
variable {B : Nat} {w w' : World} {R : Nat → Option RecO} {X : Nat → Option ScxO} {bs : List Nat} {ps : List (Int × Int)} {l : List (Int × Int)}
theorem Sfx.below (h : Sfx B w R X bs ps) (hb : Below w.heap.size w w') : Sfx B w' R X bs ps := ⟨h.rep.below hb, h.len, h.nd, h.at_, h.lo⟩
theorem Sfx.chn (h : Sfx B w R X bs (psOf l)) : Chn B w R X bs l := ⟨h.rep, by rw [h.len]; simp [psOf], h.nd, h.at_, h.lo⟩
theorem Sfx.cons (h : Sfx B w R X bs ps) {b fb xb : Nat} {p : Int × Int} (hb : w.heap.size ≤ b) (hfb : w.heap.size ≤ fb) (hxb : w.heap.size ≤ xb) (hB : B ≤ w.heap.size) (hr : RepapiPair w' (upd R b ⟨[.int .i64 p.1, .int .i64 p.2], fb, (bs[0]?).toList.map some, some xb, false⟩) (upd X xb firstO)) :
    Sfx B w' (upd R b ⟨[.int .i64 p.1, .int .i64 p.2], fb, (bs[0]?).toList.map some, some xb, false⟩) (upd X xb firstO) (b :: bs) (p :: ps) := by
  refine ⟨hr, by simp [h.len], List.nodup_cons.2 ⟨fun hm => ?_, h.nd⟩, fun i c hc => ?_, fun k hk => ?_⟩
  · obtain ⟨i, hi⟩ := List.getElem?_of_mem hm
    obtain ⟨f, x, o, h1, _⟩ := h.at_ i b hi
    have := (h.rep.recs _ _ h1).1.lt
    omega
  · cases i with
    | zero =>
      simp only [List.getElem?_cons_zero, Option.some.injEq] at hc
      subst hc
      exact ⟨fb, xb, firstO, upd_self _ _ _, upd_self _ _ _, .inr rfl⟩
    | succ i =>
      obtain ⟨f, x, o, h1, h2, h3⟩ := h.at_ i c (by simpa using hc)
      refine ⟨f, x, o, ?_, ?_, h3⟩
      · rw [upd_ne _ _ (fun e => by have := (h.rep.recs _ _ h1).1.lt; omega)]; exact h1
      · rw [upd_ne _ _ (fun e => by have := (h.rep.scx _ _ h2).lt; omega)]; exact h2
  · rcases hk with hk | ⟨c, o, ho, e⟩ | hk
    · unfold upd at hk; split at hk
      · omega
      · exact h.lo k (.inl hk)
    · rcases upd_cases ho with ⟨_, rfl⟩ | ⟨_, ho⟩
      · simp only at e; omega
      · exact h.lo k (.inr (.inl ⟨c, o, ho, e⟩))
    · unfold upd at hk; split at hk
      · omega
      · exact h.lo k (.inr (.inr hk))
theorem Sfx.empty (B : Nat) (w : World) : Sfx B w (fun _ => none) (fun _ => none) [] [] :=
  ⟨Rep.empty _ _ _ _ _, rfl, List.nodup_nil, fun i b h => by simp at h, fun k hk => by
    rcases hk with hk | ⟨_, _, hk, _⟩ | hk <;> simp at hk⟩
end
theorem pair_at {w : World} {A : Option Addr} {n : Nat} {xs : List SP} (h : Kd.C k56 w A n xs) {i : Nat} (hi : i < xs.length) : ∃ ad, A = some ad ∧ w.cell? (ad.add (i * 2)) = some (.int .i64 (pr xs[i]).1) ∧ w.cell? ⟨(ad.add (i * 2)).block, (ad.add (i * 2)).off + 1, none⟩ = some (.int .i64 (pr xs[i]).2) := by
  obtain ⟨ad, hA, h1, h2⟩ := at_T56 h i (by omega) (by have := h.1; omega)
  have e : rd_T56 xs (i : Int) = xs[i] := by simp [rd_T56, List.getD_eq_getElem?_getD, List.getElem?_eq_getElem hi]
  rw [e] at h1 h2
  exact ⟨ad, hA, h1, h2⟩
end Go.Proofs.Yteeficpjggimcaa

/- chain: New; model.Check. -/
namespace Go.Proofs.Yteeficpjggimcaa
open Go.RowKit Go.Proofs.YteeficpjggimcaaW.PrintWords Go.Proofs.YteeficpjggimcaaW.PrintLast Go.Proofs.Yteeficpjggimcaa.PChainCalls
set_option linter.unusedVariables false
set_option linter.unusedSimpArgs false

/-- From place j on the keys rise. -/
def RiseFrom (xs : List SP) (j : Nat) : Prop := ∀ i (h : i + 1 < xs.length), j ≤ i + 1 → (xs[i]'(by omega)).f0 < xs[i + 1].f0
open Classical in
noncomputable def chkP (xs : List SP) : Int := if RiseFrom xs 1 then 0 else 11
theorem rd_at (xs : List SP) (j : Nat) (h : j < xs.length) : rd_T56 xs (j : Int) = xs[j] := by
  simp [rd_T56, List.getD_eq_getElem?_getD, List.getElem?_eq_getElem h]
theorem wrap64_id {n : Int} (h0 : -9223372036854775808 ≤ n) (h1 : n ≤ 9223372036854775807) : wrap64 n = n := by
  unfold wrap64; omega
open Classical in
theorem mcheck_l0 (xs : List SP) (hl : xs.length ≤ 1000000000000) : ∀ (m j : Nat), 1 ≤ j → xs.length ≤ j + m → model_Check.l0 (m + 1) xs j = some (if RiseFrom xs j then 0 else 11) := fun m => by
  induction m with
  | zero =>
    intro j h1 h2
    unfold model_Check.l0
    rw [if_neg (by omega), if_pos (show RiseFrom xs j from fun i h hj => by omega)]
  | succ m ih =>
    intro j h1 h2
    unfold model_Check.l0
    by_cases hj : j < xs.length
    · rw [if_pos (by omega), wrap64_id (by omega) (by omega), if_pos (by omega), if_pos (by omega), if_pos (by omega), wrap64_id (by omega) (by omega)]
      have e1 : ((j : Int) - 1) = ((j - 1 : Nat) : Int) := by omega
      rw [e1, rd_at xs (j - 1) (by omega), rd_at xs j hj]
      have e2 : ((j : Int) + 1) = ((j + 1 : Nat) : Int) := by omega
      by_cases hk : (xs[j - 1]'(by omega)).f0 ≥ xs[j].f0
      · rw [if_pos hk, if_neg]
        intro hr
        have := hr (j - 1) (by omega) (by omega)
        simp only [show j - 1 + 1 = j by omega] at this
        omega
      · rw [if_neg hk, e2, ih (j + 1) (by omega) (by omega)]
        congr 1
        have : RiseFrom xs (j + 1) ↔ RiseFrom xs j := by
          refine ⟨fun h i hi hji => ?_, fun h i hi hji => h i hi (by omega)⟩
          by_cases e : j = i + 1
          · subst e
            simp only [Nat.add_sub_cancel] at hk
            omega
          · exact h i hi (by omega)
        simp only [this]
    · rw [if_neg (by omega), if_pos (show RiseFrom xs j from fun i h hj => by omega)]
theorem model_check (w : World) (A : Option Addr) (c : Nat) (xs : List SP) (hl : xs.length ≤ 1000000000000) (h : Kd.C k56 w A xs.length xs) (hc : xs.length ≤ c) :
    Calls Try.prog 21 #[.slice A xs.length c] w fun e w' => e = .returned (.int .i64 (chkP xs)) ∧ Below w.heap.size w w' := by
  refine (model_Check.calls (xs.length + 1) A c xs (chkP xs) w h hc (mcheck_l0 xs hl xs.length 1 (by omega) (by omega))).mono ?_
  rintro e w1 ⟨rfl, mm, hw⟩
  exact ⟨rfl, by rw [hw]; exact pw_below_drewN (Below.refl _ _) mm⟩
set_option maxHeartbeats 4000000 in
set_option maxRecDepth 100000 in
theorem chain_new_bad (w : World) (A : Option Addr) (c : Nat) (xs : List SP) (hl : xs.length ≤ 1000000) (h : Kd.C k56 w A xs.length xs) (hc : xs.length ≤ c) (hk : ¬ RiseFrom xs 1) :
    Calls Try.prog 6 #[.slice A xs.length c] w fun e w' => e = .returned (.tuple #[.pointer none, .int .i64 11]) ∧ Below w.heap.size w w' := by
  have HC := Lib.hid (model_check w A c xs (by omega) h hc)
  rw [show chkP xs = 11 from if_neg hk] at HC
  refine calls_hide fun Q HQ => ?_
  have HQ' := Lib.hid HQ
  clear HQ h hk
  go_enter Try.func6, Try.ntmps6
  go_wp2_with fail
  refine HC.out.mono ?_
  rintro e w1 ⟨rfl, hb⟩
  have HB := Lib.hid hb
  clear hb HC
  go_wp2
  exact HQ'.out _ _ ⟨rfl, HB.out⟩
set_option maxHeartbeats 4000000 in
set_option maxRecDepth 100000 in
theorem chain_new (w : World) (A : Option Addr) (c : Nat) (xs : List SP) (hl : xs.length ≤ 1000000) (h : Kd.C k56 w A xs.length xs) (hc : xs.length ≤ c) (hk : RiseFrom xs 1) :
    Calls Try.prog 6 #[.slice A xs.length c] w fun e w' => ∃ ch R X bs, e = .returned (.tuple #[.pointer (some ⟨ch, 0, none⟩), .int .i64 0]) ∧ Chn w.heap.size w' R X bs (xs.map pr) ∧ Blk w' ch TCH [pv bs[0]?] ∧ w.heap.size ≤ ch ∧ Below w.heap.size w w' := by
  have HC := Lib.hid (model_check w A c xs (by omega) h hc)
  rw [show chkP xs = 0 from if_pos hk] at HC
  have HP := Lib.hid h
  refine calls_hide fun Q HQ => ?_
  have HQ' := Lib.hid HQ
  clear HQ h hk
  go_enter Try.func6, Try.ntmps6
  go_wp2_with fail
  refine HC.out.mono ?_
  rintro e w1 ⟨rfl, hb⟩
  have HB := Lib.hid hb
  have HN := Lib.hid (new_apiPair 0 0 none 0 [] (fun _ => none) (fun _ => none) w1 (Rep.empty _ _ _ _ _) (Row1.nil w1) (fun p hp => by simp at hp) (by simp))
  clear hb HC
  go_wp2_with fail
  refine HN.out.mono ?_
  rintro e w2 ⟨b, fb, xb, rfl, h1, h2, h3, hbl, hrep⟩
  have HS := Lib.hid (show Sfx w.heap.size w2 _ _ [b] [(0, 0)] from (Sfx.empty w.heap.size w1).cons (p := (0, 0)) h1 h2 h3 HB.out.size hrep)
  have HB2 := Lib.hid (HB.out.trans (hbl.mono HB.out.size))
  clear h1 h2 h3 hbl hrep HN HB
  have hle : (xs.length : Int) - 1 ≤ 1000000 := by omega
  go_wp2
  go_loopw [5, 6] (fun nx k wr => ∃ (j b : Nat) (R : Nat → Option RecO) (X : Nat → Option ScxO) (bs : List Nat), j ≤ xs.length ∧ k = .int .i64 ((j : Int) - 1) ∧ nx = .pointer (some ⟨b, 0, none⟩) ∧ bs[0]? = some b ∧ Sfx w.heap.size wr R X bs ((xs.drop j).map pr ++ [(0, 0)]) ∧ Below w.heap.size w wr) (fun _ k _ => (intOf k + 1).toNat)
  case atStart => exact ⟨xs.length, b, _, _, [b], Nat.le_refl _, rfl, rfl, rfl, by simpa using HS.out, HB2.out⟩
  case round =>
    clear HS HB2
    obtain ⟨j, b, R, X, bs, hj, rfl, rfl, hb0, hs, hbel⟩ := hrel
    have HS := Lib.hid hs
    have HB := Lib.hid hbel
    have HB0 := Lib.hid hb0
    clear hs hbel hb0
    by_cases hlt : 0 < j
    · obtain ⟨i, rfl⟩ : ∃ i, j = i + 1 := ⟨j - 1, by omega⟩
      have hil : i < xs.length := by omega
      obtain ⟨ad, hA, c0, c1⟩ := pair_at HP.out hil
      have c0' := pw_cell_below HB.out c0
      have c1' := pw_cell_below HB.out c1
      have HD := Lib.hid (show (xs.drop i).map pr = pr xs[i] :: (xs.drop (i + 1)).map pr from by rw [List.drop_eq_getElem_cons hil]; rfl)
      generalize pr xs[i] = p at *
      obtain ⟨pk, pw⟩ := p
      simp only at c0' c1'
      subst hA
      have ei : ((i + 1 : Nat) : Int) - 1 = (i : Int) := by omega
      rw [ei]
      have hbs : (bs[0]?).toList.map some = [some b] := by rw [HB0.out]; rfl
      have HNW := Lib.hid (new_apiPair pk pw (some ⟨wr.heap.size, 0, none⟩) 1 [some b] R X (wr.alloc (.cells #[.pointer (some ⟨b, 0, none⟩)] THRapiPair)) (HS.out.rep.below ((Below.refl wr.heap.size wr).alloc (Nat.le_refl _) _))
        (Row1.of_blk (us := [pv (some b)]) (rest := []) (Blk.new wr THRapiPair [pv (some b)])) (fun p hp => by
          rw [List.mem_singleton.1 hp]
          exact fun q e => by
            cases e
            obtain ⟨f, x, o, h1, _⟩ := HS.out.at_ 0 b HB0.out
            rw [h1]; rfl) (by simp))
      have HBS := Lib.hid hbs
      clear c0 c1 hbs ei
      go_wp2_with fail
      refine HNW.out.mono ?_
      rintro e w3 ⟨b2, fb, xb, rfl, h1, h2, h3, hbl, hrep⟩
      simp only [World.size_alloc] at h1 h2 h3
      have hbl2 : Below wr.heap.size wr w3 := ((Below.refl wr.heap.size wr).alloc (Nat.le_refl _) _).trans (hbl.mono (by simp))
      have HS2 := Lib.hid (show Sfx w.heap.size w3 _ _ (b2 :: bs) ((xs.drop i).map pr ++ [(0, 0)]) from by
        rw [HD.out]
        rw [← HBS.out] at hrep
        exact HS.out.cons (p := (pk, pw)) (by omega) (by omega) (by omega) HB.out.size hrep)
      have HB2 := Lib.hid (HB.out.trans (hbl2.mono HB.out.size))
      clear h1 h2 h3 hbl hbl2 hrep HNW
      go_wp2
      go_roundw
      case rel => exact ⟨i, b2, _, _, _, by omega, by go_num, rfl, rfl, HS2.out, HB2.out⟩
      case measure => simp [intOf] <;> omega
    · obtain rfl : j = 0 := by omega
      have hbs : (bs[0]?).toList.map some = [some b] := by rw [HB0.out]; rfl
      have HBS := Lib.hid hbs
      have HNW := Lib.hid (new_apiPair 0 0 (some ⟨wr.heap.size, 0, none⟩) 1 [some b] R X (wr.alloc (.cells #[.pointer (some ⟨b, 0, none⟩)] THRapiPair)) (HS.out.rep.below ((Below.refl wr.heap.size wr).alloc (Nat.le_refl _) _))
        (Row1.of_blk (us := [pv (some b)]) (rest := []) (Blk.new wr THRapiPair [pv (some b)])) (fun p hp => by
          rw [List.mem_singleton.1 hp]
          exact fun q e => by
            cases e
            obtain ⟨f, x, o, h1, _⟩ := HS.out.at_ 0 b HB0.out
            rw [h1]; rfl) (by simp))
      clear hbs
      go_wp2_with fail
      refine HNW.out.mono ?_
      rintro e w3 ⟨b2, fb, xb, rfl, h1, h2, h3, hbl, hrep⟩
      simp only [World.size_alloc] at h1 h2 h3
      have hbl2 : Below wr.heap.size wr w3 := ((Below.refl wr.heap.size wr).alloc (Nat.le_refl _) _).trans (hbl.mono (by simp))
      have HS2 := Lib.hid (show Chn w.heap.size w3 _ _ (b2 :: bs) (xs.map pr) from Sfx.chn (by
        rw [← HBS.out] at hrep
        have := HS.out.cons (p := (0, 0)) (by omega) (by omega) (by omega) HB.out.size hrep
        simpa [psOf] using this))
      have HB2 := Lib.hid (HB.out.trans (hbl2.mono HB.out.size))
      clear h1 h2 h3 hbl hbl2 hrep HNW
      have hbw := (Below.refl w3.heap.size w3).alloc (Nat.le_refl _) (.cells #[.pointer (some ⟨b2, 0, none⟩)] TCH)
      have HFIN := Lib.hid (HQ'.out _ (w3.alloc (.cells #[.pointer (some ⟨b2, 0, none⟩)] TCH)) ⟨w3.heap.size, _, _, _, rfl, HS2.out.below hbw, Blk.new w3 TCH [pv (some b2)], HB2.out.size, HB2.out.alloc HB2.out.size _⟩)
      clear hbw
      go_wp2
      exact HFIN.out
end Go.Proofs.Yteeficpjggimcaa
