/- Joined texts: ChainB ChainC ChainD Sl New. -/
import Derived.Test.YteeficpjggimcaaM2
import Derived.StillTailTactics

/- chain: has, walk. -/
namespace Go.Proofs.Yteeficpjggimcaa
open Go.RowKit Go.Proofs.YteeficpjggimcaaW.PrintWords
set_option linter.unusedVariables false
set_option linter.unusedSimpArgs false

section
variable {B B' : Nat} {w w' : World} {g : Option Nat} {ks ks' : List Int} {R : Nat → Option RecO} {X : Nat → Option ScxO} {bs : List Nat} {l : List (Int × Int)}
theorem Chn.hasTail (h : Chn B w R X bs l) {b : Nat} (hb : bs[l.length + 1]? = some b) (key : Int) :
    Calls Try.prog 27 #[.pointer (some ⟨b, 0, none⟩), .int .i64 key] w fun e w' => e = .returned (.bool false) ∧ w = w' := by
  have HT := Lib.hid (h.tailYes hb)
  clear h
  go_enter Try.func27, Try.ntmps27
  go_wp2_with fail
  refine HT.out.mono ?_
  rintro e w' ⟨rfl, rfl⟩
  go_wp2
  go_ret
  exact ⟨rfl, rfl⟩
theorem Chn.hasItem (h : Chn B w R X bs l) {i b : Nat} (hi : i < l.length) (hb : bs[i + 1]? = some b) (key : Int) :
    Calls Try.prog 27 #[.pointer (some ⟨b, 0, none⟩), .int .i64 key] w fun e w' => e = .returned (.bool (l[i].1 == key)) ∧ w = w' := by
  have HT := Lib.hid (h.tailNo (by omega) hb)
  obtain ⟨hk, _⟩ := h.key hi hb
  generalize l[i].1 = k at *
  clear h
  go_enter Try.func27, Try.ntmps27
  go_wp2_with fail
  refine HT.out.mono ?_
  rintro e w' ⟨rfl, rfl⟩
  go_wp2
  go_ret
  exact ⟨rfl, rfl⟩
end
/-- Where a pointer stands in the row. -/
def ptrIdx (bs : List Nat) : Value → Nat
  | .pointer (some a) => bs.idxOf a.block
  | _ => 0
theorem ptrIdx_at {bs : List Nat} (h : bs.Nodup) {i b : Nat} (hb : bs[i]? = some b) : ptrIdx bs (.pointer (some ⟨b, 0, none⟩)) = i := by
  obtain ⟨hi, e⟩ := List.getElem?_eq_some_iff.1 hb
  subst e
  show bs.idxOf bs[i] = i
  exact h.idxOf_getElem i hi
set_option maxHeartbeats 4000000 in
theorem chain_walk (B B' : Nat) (w : World) (g : Option Nat) (ks : List Int) (R : Nat → Option RecO) (X : Nat → Option ScxO) (bs : List Nat) (l : List (Int × Int)) (c : Nat) (key : Int) (h : Chn B w R X bs l) (hg : GAtI w B' g ks) (hB : B' ≤ w.heap.size) (hl : ks.length ≤ 900000000) (hll : l.length ≤ 1000000) (hc : Blk w c TCH [pv bs[0]?]) :
    Calls Try.prog 26 #[.pointer (some ⟨c, 0, none⟩), gvI g, .int .i64 key] w fun e w' => ∃ p n, bs[cutN l key]? = some p ∧ bs[cutN l key + 1]? = some n ∧ e = .returned (.tuple #[.pointer (some ⟨p, 0, none⟩), .pointer (some ⟨n, 0, none⟩)]) ∧ StepI B' g w w' (ks ++ List.replicate (cutN l key + 1) 1) (fun _ => False) ∧ Chn B w' R X bs l := by
  refine calls_hide fun Q HQ => ?_
  have HQ' := Lib.hid HQ
  have HH := Lib.hid h
  have HG := Lib.hid hg
  have HN := Lib.hid h.nd
  have HL := Lib.hid h.len
  have hbl : bs[0]? = some (bs[0]'(by have := h.len; omega)) := List.getElem?_eq_getElem (by have := h.len; omega)
  have hb2 : bs[0 + 1]? = some (bs[1]'(by have := h.len; omega)) := List.getElem?_eq_getElem (by have := h.len; omega)
  rw [hbl] at hc
  have HG0 := Lib.hid (h.get hg hB (by omega) hbl hb2)
  have HB0 := Lib.hid hbl
  have HB1 := Lib.hid hb2
  generalize bs[0]'(by have := h.len; omega) = b0 at *
  generalize bs[1]'(by have := h.len; omega) = b1 at *
  have hc0 : w.cell? ⟨c, 0, none⟩ = some (.pointer (some ⟨b0, 0, none⟩)) := hc.cell 0
  clear HQ h hg hbl hb2 hc
  go_enter Try.func26, Try.ntmps26
  go_wp2_with fail
  refine HG0.out.mono ?_
  rintro e w1 ⟨rfl, hs, hch⟩
  have HS := Lib.hid hs
  have HC := Lib.hid hch
  have HSZ := Lib.hid (Nat.le_trans hB hs.fr.size)
  clear hs hch HG0 hc0
  go_wp2
  go_loopw [6, 7] (fun p n wr => ∃ (j a b : Nat), j ≤ cutN l key ∧ j ≤ l.length ∧ bs[j]? = some a ∧ bs[j + 1]? = some b ∧ p = .pointer (some ⟨a, 0, none⟩) ∧ n = .pointer (some ⟨b, 0, none⟩) ∧ StepI B' g w wr (ks ++ List.replicate (j + 1) 1) (fun _ => False) ∧ Chn B wr R X bs l) (fun _ n _ => bs.length - ptrIdx bs n)
  case atStart => exact ⟨0, b0, b1, Nat.zero_le _, Nat.zero_le _, HB0.out, HB1.out, rfl, rfl, HS.out, HC.out⟩
  case round =>
    clear HS HC HSZ HB0 HB1 HH
    obtain ⟨j, a, b, hj, hjl, ha, hb, rfl, rfl, hs, hch⟩ := hrel
    have HS := Lib.hid hs
    have HC := Lib.hid hch
    have HA := Lib.hid ha
    have HB := Lib.hid hb
    clear hs hch ha hb
    by_cases hjt : j < l.length
    · have HT := Lib.hid (HC.out.tailNo (i := j + 1) (by omega) HB.out)
      obtain ⟨hk, _⟩ := HC.out.key hjt HB.out
      by_cases hlt : l[j].1 < key
      · have HJ := Lib.hid (cutN_on hj hjt hlt)
        obtain ⟨n2, hn2⟩ : ∃ n2, bs[j + 1 + 1]? = some n2 := ⟨bs[j + 1 + 1]'(by have := HL.out; omega), List.getElem?_eq_getElem (by have := HL.out; omega)⟩
        have HN2 := Lib.hid hn2
        have HGT := Lib.hid (HC.out.get HS.out.gate (Nat.le_trans hB HS.out.fr.size) (by simp; omega) HB.out hn2)
        generalize l[j].1 = k at *
        clear hn2 hj
        go_wp2_with fail
        refine HT.out.mono ?_
        rintro e w' ⟨rfl, rfl⟩
        go_wp2_with fail
        refine HGT.out.mono ?_
        rintro e w2 ⟨rfl, hs2, hc2⟩
        have HS2 := Lib.hid (show StepI B' g w w2 (ks ++ List.replicate (j + 1 + 1) 1) (fun _ => False) from by
          have := HS.out.trans hs2 (fun _ _ x => x)
          rwa [List.append_assoc, ← List.replicate_succ'] at this)
        have HC2 := Lib.hid hc2
        clear hs2 hc2 HT HGT
        go_wp2
        go_roundw
        case rel => exact ⟨j + 1, b, n2, HJ.out, by omega, HB.out, HN2.out, rfl, rfl, HS2.out, HC2.out⟩
        case measure =>
          show bs.length - ptrIdx bs (.pointer (some ⟨n2, 0, none⟩)) < bs.length - ptrIdx bs (.pointer (some ⟨b, 0, none⟩))
          rw [ptrIdx_at HN.out HN2.out, ptrIdx_at HN.out HB.out]
          have := HL.out
          omega
      · have HJ := Lib.hid (cutN_at hj hjt hlt)
        generalize l[j].1 = k at *
        clear hj
        go_wp2_with fail
        refine HT.out.mono ?_
        rintro e w' ⟨rfl, rfl⟩
        go_wp2
        exact HQ'.out _ _ ⟨a, b, by rw [HJ.out]; exact HA.out, by rw [HJ.out]; exact HB.out, rfl, by rw [HJ.out]; exact HS.out, HC.out⟩
    · have hje : j = l.length := by omega
      subst hje
      have HJ := Lib.hid (show cutN l key = l.length from Nat.le_antisymm (cutN_le l key) hj)
      have HT := Lib.hid (HC.out.tailYes HB.out)
      clear hj hjl
      go_wp2_with fail
      refine HT.out.mono ?_
      rintro e w' ⟨rfl, rfl⟩
      go_wp2
      exact HQ'.out _ _ ⟨a, b, by rw [HJ.out]; exact HA.out, by rw [HJ.out]; exact HB.out, rfl, by rw [HJ.out]; exact HS.out, HC.out⟩
end Go.Proofs.Yteeficpjggimcaa

/- llx: LLX by a gate, of a record that nobody is at. Printed by p_llx.py. -/
namespace Go.Proofs.Yteeficpjggimcaa
open Go.RowKit Go.Proofs.YteeficpjggimcaaW.PrintWords
set_option linter.unusedVariables false
set_option linter.unusedSimpArgs false

abbrev TPRs : Nat := 93
theorem pinfo_prec : (Try.prog.info? THRapiPair).map (fun i => (i.zero, i.size, i.bytes)) = some (some (.pointer none), 1, 8) := by kernel_rfl
theorem lksize : (Try.prog.info? TLK).map (·.size) = some 3 := by kernel_rfl
theorem take_next {α : Type} (l : List α) (j : Nat) (h : j < l.length) : l.take j ++ [l[j]] = l.take (j + 1) := by
  rw [List.take_add_one, List.getElem?_eq_getElem h]; rfl
section
variable {B B' : Nat} {w w0 w1 w' W : World} {g : Option Nat} {ks ks' : List Int} {R : Nat → Option RecO} {X : Nat → Option ScxO} {bs : List Nat} {l : List (Int × Int)}
theorem set3_fr (w : World) (b : Nat) (u v z : Value) : Fr w (((w.setCell ⟨b, 0, none⟩ u).setCell ⟨b, 1, none⟩ v).setCell ⟨b, 2, none⟩ z) (fun k => k = b) :=
  (((Fr.refl w (fun k => k = b)).setCell ⟨b, 0, none⟩ u (fun _ => rfl)).setCell ⟨b, 1, none⟩ v (fun _ => rfl)).setCell ⟨b, 2, none⟩ z (fun _ => rfl)
/-- What is new to the call, and none of a tape's, has turned. -/
theorem step_new {S : Nat → Prop} (hs : StepI B' g w W ks' (fun _ => False)) (hf : Fr W w1 S) (hS : ∀ k, S k → w.heap.size ≤ k ∧ ∃ T ys, Blk W k T ys ∧ T ≠ 127 ∧ T ≠ 3) : StepI B' g w w1 ks' (fun _ => False) :=
  hs.trans (hs.gate.fr hf (fun k hk hs' => by
    obtain ⟨_, T, ys, hb, h1, h2⟩ := hS k hs'
    exact hs.gate.apart hb h1 h2 hk)) (fun i hi hx => by have := (hS i hx).1; omega)
theorem Chn.marked (h : Chn B w R X bs l) (hg : GAtI w B' g ks) (hB : B' ≤ w.heap.size) (hl : ks.length ≤ 1000000000) {b fb : Nat} {D : List Value} {fl : List (Option Nat)} {x : Option Nat} (hb : R b = some ⟨D, fb, fl, x, false⟩) :
    Calls Try.prog 67 #[.pointer (some ⟨b, 0, none⟩), gvI g] w fun e w' => e = .returned (.bool false) ∧ StepI B' g w w' (ks ++ [1]) (fun _ => False) ∧ Chn B w' R X bs l := by
  refine (marked_apiPair B' g ks R X w h.rep hg hB hl b _ hb).mono ?_
  rintro e w1 ⟨rfl, hs, hr⟩
  exact ⟨rfl, hs, hr, h.len, h.nd, h.at_, h.lo⟩
theorem eql_pscx {x y : Option Nat} (hx : PtrTo TPX 9 w x) (hy : PtrTo TPX 9 w y) : (binOp .eql THXapiPair (pv x) (pv y)).run Try.prog w = .ok (.bool (decide (x = y))) w := by
  obtain ⟨i, hi, hsz⟩ := hsz_apiPair
  exact run_eql_ptr (P := Try.prog) (w := w) (x := x) (y := y) Try.underlying71 hi hsz hx.known hy.known
theorem Chn.info (h : Chn B w R X bs l) (hg : GAtI w B' g ks) (hB : B' ≤ w.heap.size) (hl : ks.length ≤ 1000000000) {b fb : Nat} {D : List Value} {fl : List (Option Nat)} {x : Nat} {m : Bool} (hb : R b = some ⟨D, fb, fl, some x, m⟩) :
    Calls Try.prog 44 #[.pointer (some ⟨b, 0, none⟩), gvI g] w fun e w' => e = .returned (.pointer (some ⟨x, 0, none⟩)) ∧ StepI B' g w w' (ks ++ [1]) (fun _ => False) ∧ Chn B w' R X bs l ∧ (binOp .eql THXapiPair (.pointer (some ⟨x, 0, none⟩)) (.pointer (some ⟨x, 0, none⟩))).run Try.prog w' = .ok (.bool true) w' := by
  refine (info_apiPair B' g ks R X w h.rep hg hB hl b _ hb).mono ?_
  rintro e w1 ⟨rfl, hs, hr⟩
  have hp := hr.scxPtr (hr.okInfo hb)
  have := eql_pscx hp hp
  rw [decide_eq_true rfl] at this
  exact ⟨rfl, hs, ⟨hr, h.len, h.nd, h.at_, h.lo⟩, this⟩
theorem Chn.state (h : Chn B w R X bs l) (hg : GAtI w B' g ks) (hB : B' ≤ w.heap.size) (hl : ks.length ≤ 1000000000) {x : Nat} {o : ScxO} (hx : X x = some o) {st : Int} (hst : o.state = st) (h0 : 0 ≤ st) (h1 : st ≤ 2) :
    Calls Try.prog 68 #[.pointer (some ⟨x, 0, none⟩), gvI g] w fun e w' => e = .returned (.int .i64 st) ∧ StepI B' g w w' (ks ++ [1]) (fun _ => False) ∧ Chn B w' R X bs l := by
  subst hst
  refine (state_apiPair B' g ks R X w h.rep hg hB hl x o hx (by omega) (by omega)).mono ?_
  rintro e w1 ⟨rfl, hs, hr⟩
  exact ⟨rfl, hs, hr, h.len, h.nd, h.at_, h.lo⟩
theorem Chn.getJ (h : Chn B w R X bs l) (hg : GAtI w B' g ks) (hB : B' ≤ w.heap.size) (hl : ks.length ≤ 1000000000) {b fb : Nat} {D : List Value} {fl : List (Option Nat)} {x : Option Nat} {m : Bool} (hb : R b = some ⟨D, fb, fl, x, m⟩) {j : Nat} (hj : j < fl.length) :
    Calls Try.prog 33 #[.pointer (some ⟨b, 0, none⟩), gvI g, .int .i64 j] w fun e w' => e = .returned (pv fl[j]) ∧ StepI B' g w w' (ks ++ [1]) (fun _ => False) ∧ Chn B w' R X bs l := by
  refine (get_apiPair B' g ks R X w h.rep hg hB hl b _ hb j (by omega) (by simpa using hj)).mono ?_
  rintro e w1 ⟨rfl, hs, hr⟩
  exact ⟨by simp [List.getD_eq_getElem?_getD, List.getElem?_eq_getElem hj], hs, hr, h.len, h.nd, h.at_, h.lo⟩
/-- While LLX gathers the fields. -/
structure LxAt (B B' : Nat) (g : Option Nat) (w : World) (rc : Nat) (ks : List Int) (R : Nat → Option RecO) (X : Nat → Option ScxO) (bs : List Nat) (l : List (Int × Int)) (fl : List (Option Nat)) (j : Nat) (v : Value) (wr : World) : Prop where
  st : StepI B' g w wr (ks ++ [1, 1, 1, 1] ++ List.replicate j 1) (fun _ => False)
  chn : Chn B wr R X bs l
  own : wr.ownsRow w.heap.size THRapiPair 1 v j ((fl.map pv).take j)
  cell : Blk wr rc TLK [.pointer none, .pointer none, .slice none 0 0]
end

set_option maxHeartbeats 4000000 in
set_option maxRecDepth 100000 in
theorem llx_1 (B B' : Nat) (w : World) (g : Option Nat) (ks : List Int) (R : Nat → Option RecO) (X : Nat → Option ScxO) (bs : List Nat) (l : List (Int × Int)) (h : Chn B w R X bs l) (hg : GAtI w B' g ks) (hB : B' ≤ w.heap.size) (hl : ks.length ≤ 900000000)
    (b fb x : Nat) (D : List Value) (fl : List (Option Nat)) (hb : R b = some ⟨D, fb, fl, some x, false⟩) (hfl : fl.length ≤ 1000) (o : ScxO) (hx : X x = some o) (hst : o.state = 1) :
    Calls Try.prog 54 #[gvI g, .pointer (some ⟨b, 0, none⟩)] w fun e w' => ∃ v, e = .returned (.tuple #[.agg #[.pointer (some ⟨b, 0, none⟩), .pointer (some ⟨x, 0, none⟩), v], .int .i64 1]) ∧
      w'.ownsRow w.heap.size THRapiPair 1 v fl.length (fl.map pv) ∧ StepI B' g w w' (ks ++ List.replicate (fl.length + 5) 1) (fun _ => False) ∧ Chn B w' R X bs l := by
  refine calls_hide fun Q HQ => ?_
  have HQ' := Lib.hid HQ
  have HRB := Lib.hid hb
  have HX := Lib.hid hx
  have HST := Lib.hid hst
  have HLEN := Lib.hid (len_apiPair R X)
  have HK := Lib.hid (Blk.new w TLK [.pointer none, .pointer none, .slice none 0 0])
  have hs0 := hg.below0 ((Below.refl w.heap.size w).alloc (Nat.le_refl _) (.cells #[.pointer none, .pointer none, .slice none 0 0] TLK)) (fun _ => False)
  have HS0 := Lib.hid hs0
  have HC0 := Lib.hid (h.below ((Below.refl w.heap.size w).alloc (Nat.le_refl _) (.cells #[.pointer none, .pointer none, .slice none 0 0] TLK)))
  have HM := Lib.hid (HC0.out.marked hs0.gate (by simp; omega) (by omega) hb)
  clear HQ h hg hb hx hst hs0
  go_enter Try.func54, Try.ntmps54
  have HSZ0 := Lib.hid (show B' ≤ (w.alloc (.cells #[.pointer none, .pointer none, .slice none 0 0] TLK)).heap.size by simp; omega)
  have HK0 := HK
  go_wp2_with fail
  generalize w.alloc (.cells #[.pointer none, .pointer none, .slice none 0 0] 95) = w0 at *
  generalize hrc : w.heap.size = rc at *
  have HRC := Lib.hid hrc
  clear HK hrc
  refine HM.out.mono ?_
  rintro e w1 ⟨rfl, hs, hc⟩
  have HK1 := Lib.hid (hs.blk HS0.out.gate HK0.out (by decide) (by decide) (fun x => x))
  have HS1 := Lib.hid (HS0.out.trans hs (fun _ _ x => x))
  have HC1 := Lib.hid hc
  have HSZ1 := Lib.hid (Nat.le_trans HSZ0.out hs.fr.size)
  clear hs hc HM HK0 HS0 HC0 HSZ0
  have HM := Lib.hid (HC1.out.info HS1.out.gate HSZ1.out (by simp; omega) HRB.out)
  go_wp2_with fail
  refine HM.out.mono ?_
  rintro e w2 ⟨rfl, hs, hc, heq⟩
  have HK2 := Lib.hid (hs.blk HS1.out.gate HK1.out (by decide) (by decide) (fun x => x))
  have HS2 := Lib.hid (HS1.out.trans hs (fun _ _ x => x))
  have HC2 := Lib.hid hc
  have HSZ2 := Lib.hid (Nat.le_trans HSZ1.out hs.fr.size)
  clear hs hc HM HK1 HS1 HC1 HSZ1
  have HM := Lib.hid (HC2.out.state HS2.out.gate HSZ2.out (by simp; omega) HX.out HST.out (by decide) (by decide))
  clear heq
  go_wp2_with fail
  refine HM.out.mono ?_
  rintro e w3 ⟨rfl, hs, hc⟩
  have HK3 := Lib.hid (hs.blk HS2.out.gate HK2.out (by decide) (by decide) (fun x => x))
  have HS3 := Lib.hid (HS2.out.trans hs (fun _ _ x => x))
  have HC3 := Lib.hid hc
  have HSZ3 := Lib.hid (Nat.le_trans HSZ2.out hs.fr.size)
  clear hs hc HM HK2 HS2 HC2 HSZ2
  have HM := Lib.hid (HC3.out.marked HS3.out.gate HSZ3.out (by simp; omega) HRB.out)
  go_wp2_with fail
  refine HM.out.mono ?_
  rintro e w4 ⟨rfl, hs, hc⟩
  have HK4 := Lib.hid (hs.blk HS3.out.gate HK3.out (by decide) (by decide) (fun x => x))
  have HS4 := Lib.hid (HS3.out.trans hs (fun _ _ x => x))
  have HC4 := Lib.hid hc
  have HSZ4 := Lib.hid (Nat.le_trans HSZ3.out hs.fr.size)
  clear hs hc HM HK3 HS3 HC3 HSZ3
  have HM := Lib.hid (len_apiPair R X w4 HC4.out.rep b _ HRB.out)
  go_wp2_with fail
  refine HM.out.mono ?_
  rintro e w' ⟨rfl, rfl⟩
  clear HM
  go_wp2
  go_loopw [10, 37] (fun v k wr => ∃ j : Nat, j ≤ fl.length ∧ k = .int .i64 j ∧ LxAt B B' g w rc ks R X bs l fl j v wr) (fun _ k _ => fl.length - (intOf k).toNat)
  case atStart => exact ⟨0, Nat.zero_le _, rfl, by simpa using HS4.out, HC4.out, World.ownsRow_nil _ _ _ _, HK4.out⟩
  case round =>
    clear HS4 HC4 HK4 HSZ4
    obtain ⟨j, hj, rfl, hI⟩ := hrel
    have HI := Lib.hid hI
    have HSZ := Lib.hid (show B' ≤ wr.heap.size by have := hI.st.fr.size; have := HRC.out; omega)
    clear hI
    by_cases hlt : j < fl.length
    · have HG := Lib.hid (HI.out.chn.getJ HI.out.st.gate HSZ.out (by simp; omega) HRB.out hlt)
      have HT := Lib.hid (take_next (fl.map pv) j (by simpa using hlt))
      have HE := Lib.hid (show (fl.map pv)[j]'(by simpa using hlt) = pv fl[j] by simp)
      generalize fl[j] = p at *
      go_wp2_with fail
      refine HG.out.mono ?_
      rintro e w5 ⟨rfl, hs, hc⟩
      have HK5 := Lib.hid (hs.blk HI.out.st.gate HI.out.cell (by decide) (by decide) (fun x => x))
      have HO5 := Lib.hid (owns_fr HI.out.own hs.fr (fun k hk hx => by
        rcases hx with hx | hx
        · obtain ⟨ys, hy⟩ := owns_typed HI.out.own k hk
          exact HI.out.st.gate.apart hy (by decide) (by decide) hx
        · exact hx))
      have HS5 := Lib.hid (HI.out.st.trans hs (fun _ _ x => x))
      have HC5 := Lib.hid hc
      clear hs hc HG
      go_wp2_with (at_builtin; refine print_append_cells (w0 := w5) w.heap.size rfl _ _ TPRs THRapiPair (.pointer none) 1 8 rfl Try.underlying93 pinfo_prec rfl (by decide) (by decide) u10 j _ [pv p] rfl rfl rfl (by simp [Value.oneCell']) HO5.out (Below.refl _ _) (by have := HS5.out.fr.size; omega) (by omega) ?_)
      intro a1 w6 hown1 hb1 hg1 hat1
      have HK6 := Lib.hid ((Fr.of_grown hg1).blk HK5.out (fun e => by
        obtain ⟨ys, hy⟩ := owns_typed HO5.out rc e.symm
        exact absurd (hy.inj HK5.out).1 (by decide)))
      have hS : ∀ k, some k = u10.ownBlock → w.heap.size ≤ k ∧ ∃ T ys, Blk w5 k T ys ∧ T = THRapiPair := fun k hk => by
        obtain ⟨ys, hy⟩ := owns_typed HO5.out k hk.symm
        exact ⟨(World.ownsRow.lt HO5.out k hk.symm).1, _, ys, hy, rfl⟩
      have HS6 := Lib.hid (step_new HS5.out (Fr.of_grown hg1) (fun k hk => by
        obtain ⟨h1, T, ys, hy, rfl⟩ := hS k hk
        exact ⟨h1, _, ys, hy, by decide, by decide⟩))
      have HC6 := Lib.hid (HC5.out.types (Fr.of_grown hg1) (fun k hk => by
        obtain ⟨h1, T, ys, hy, rfl⟩ := hS k hk
        exact ⟨_, ys, hy, by decide, by decide, by decide⟩))
      have HI2 := Lib.hid (show LxAt B B' g w rc ks R X bs l fl (j + 1) a1 w6 from ⟨by
        have := HS6.out
        rwa [List.append_assoc, ← List.replicate_succ'] at this, HC6.out, by rw [← HT.out, HE.out]; exact hown1, HK6.out⟩)
      clear hown1 hb1 hg1 hat1 hS HK5 HO5 HS5 HC5 HK6 HS6 HC6 HT HE
      go_wp2
      go_roundw
      case rel => exact ⟨j + 1, by omega, by go_num, HI2.out⟩
      case measure => simp [intOf]; omega
    · have hje : j = fl.length := by omega
      subst hje
      have HM := Lib.hid (HI.out.chn.info HI.out.st.gate HSZ.out (by simp; omega) HRB.out)
      go_wp2_with fail
      refine HM.out.mono ?_
      rintro e w5 ⟨rfl, hs, hc, heq⟩
      have HK5 := Lib.hid (hs.blk HI.out.st.gate HI.out.cell (by decide) (by decide) (fun x => x))
      have HO5 := Lib.hid (owns_fr HI.out.own hs.fr (fun k hk hx => by
        rcases hx with hx | hx
        · obtain ⟨ys, hy⟩ := owns_typed HI.out.own k hk
          exact HI.out.st.gate.apart hy (by decide) (by decide) hx
        · exact hx))
      have HS5 := Lib.hid (HI.out.st.trans hs (fun _ _ x => x))
      have HC5 := Lib.hid hc
      clear hs hc HM
      obtain ⟨A9, c9, e9, _, _⟩ := owns_slice HO5.out
      subst e9
      have k0 := HK5.out.cell 0
      have k1 := HK5.out.cell 1
      have k2 := HK5.out.cell 2
      have kz0 : w5.frozen? ⟨rc, 0, none⟩ = false := HK5.out.free _ rfl
      have kz1 : w5.frozen? ⟨rc, 1, none⟩ = false := HK5.out.free _ rfl
      have kz2 : w5.frozen? ⟨rc, 2, none⟩ = false := HK5.out.free _ rfl
      simp only [List.getElem?_cons_zero, List.getElem?_cons_succ] at k0 k1 k2
      go_wp2
      have hf := set3_fr w5 rc (.pointer (some ⟨b, 0, none⟩)) (.pointer (some ⟨x, 0, none⟩)) (.slice A9 fl.length c9)
      have hk : Blk _ rc TLK [.pointer (some ⟨b, 0, none⟩), .pointer (some ⟨x, 0, none⟩), .slice A9 fl.length c9] := ((HK5.out.set 0 (.pointer (some ⟨b, 0, none⟩))).set 1 (.pointer (some ⟨x, 0, none⟩))).set 2 (.slice A9 fl.length c9)
      refine bodyPost_ret (results_ct rfl _ _ rc TLK _ (0, 0) _ rfl hk Try.underlying95 rfl lksize) rfl ?_
      refine HQ'.out _ _ ⟨_, rfl, ?_, ?_, ?_⟩
      · have ht := owns_fr HO5.out hf (fun q hq hx => by
          rw [hx] at hq
          obtain ⟨ys, hy⟩ := owns_typed HO5.out rc hq
          exact absurd (hy.inj HK5.out).1 (by decide))
        rw [List.take_of_length_le (by simp), HRC.out] at ht
        exact ht
      · have := step_new HS5.out hf (fun k hk => ⟨by rw [hk, HRC.out]; exact Nat.le_refl _, _, _, hk ▸ HK5.out, by decide, by decide⟩)
        rwa [show ks ++ [1, 1, 1, 1] ++ List.replicate fl.length 1 ++ [1] = ks ++ List.replicate (fl.length + 5) 1 from by
          rw [List.append_assoc, List.append_assoc, ← List.replicate_succ', show ([1, 1, 1, 1] : List Int) = List.replicate 4 1 from rfl, List.replicate_append_replicate]
          congr 2
          omega] at this
      · exact HC5.out.types hf (fun k hk => ⟨_, _, hk ▸ HK5.out, by decide, by decide, by decide⟩)

set_option maxHeartbeats 4000000 in
set_option maxRecDepth 100000 in
theorem llx_2 (B B' : Nat) (w : World) (g : Option Nat) (ks : List Int) (R : Nat → Option RecO) (X : Nat → Option ScxO) (bs : List Nat) (l : List (Int × Int)) (h : Chn B w R X bs l) (hg : GAtI w B' g ks) (hB : B' ≤ w.heap.size) (hl : ks.length ≤ 900000000)
    (b fb x : Nat) (D : List Value) (fl : List (Option Nat)) (hb : R b = some ⟨D, fb, fl, some x, false⟩) (hfl : fl.length ≤ 1000) (o : ScxO) (hx : X x = some o) (hst : o.state = 2) :
    Calls Try.prog 54 #[gvI g, .pointer (some ⟨b, 0, none⟩)] w fun e w' => ∃ v, e = .returned (.tuple #[.agg #[.pointer (some ⟨b, 0, none⟩), .pointer (some ⟨x, 0, none⟩), v], .int .i64 1]) ∧
      w'.ownsRow w.heap.size THRapiPair 1 v fl.length (fl.map pv) ∧ StepI B' g w w' (ks ++ List.replicate (fl.length + 5) 1) (fun _ => False) ∧ Chn B w' R X bs l := by
  refine calls_hide fun Q HQ => ?_
  have HQ' := Lib.hid HQ
  have HRB := Lib.hid hb
  have HX := Lib.hid hx
  have HST := Lib.hid hst
  have HLEN := Lib.hid (len_apiPair R X)
  have HK := Lib.hid (Blk.new w TLK [.pointer none, .pointer none, .slice none 0 0])
  have hs0 := hg.below0 ((Below.refl w.heap.size w).alloc (Nat.le_refl _) (.cells #[.pointer none, .pointer none, .slice none 0 0] TLK)) (fun _ => False)
  have HS0 := Lib.hid hs0
  have HC0 := Lib.hid (h.below ((Below.refl w.heap.size w).alloc (Nat.le_refl _) (.cells #[.pointer none, .pointer none, .slice none 0 0] TLK)))
  have HM := Lib.hid (HC0.out.marked hs0.gate (by simp; omega) (by omega) hb)
  clear HQ h hg hb hx hst hs0
  go_enter Try.func54, Try.ntmps54
  have HSZ0 := Lib.hid (show B' ≤ (w.alloc (.cells #[.pointer none, .pointer none, .slice none 0 0] TLK)).heap.size by simp; omega)
  have HK0 := HK
  go_wp2_with fail
  generalize w.alloc (.cells #[.pointer none, .pointer none, .slice none 0 0] 95) = w0 at *
  generalize hrc : w.heap.size = rc at *
  have HRC := Lib.hid hrc
  clear HK hrc
  refine HM.out.mono ?_
  rintro e w1 ⟨rfl, hs, hc⟩
  have HK1 := Lib.hid (hs.blk HS0.out.gate HK0.out (by decide) (by decide) (fun x => x))
  have HS1 := Lib.hid (HS0.out.trans hs (fun _ _ x => x))
  have HC1 := Lib.hid hc
  have HSZ1 := Lib.hid (Nat.le_trans HSZ0.out hs.fr.size)
  clear hs hc HM HK0 HS0 HC0 HSZ0
  have HM := Lib.hid (HC1.out.info HS1.out.gate HSZ1.out (by simp; omega) HRB.out)
  go_wp2_with fail
  refine HM.out.mono ?_
  rintro e w2 ⟨rfl, hs, hc, heq⟩
  have HK2 := Lib.hid (hs.blk HS1.out.gate HK1.out (by decide) (by decide) (fun x => x))
  have HS2 := Lib.hid (HS1.out.trans hs (fun _ _ x => x))
  have HC2 := Lib.hid hc
  have HSZ2 := Lib.hid (Nat.le_trans HSZ1.out hs.fr.size)
  clear hs hc HM HK1 HS1 HC1 HSZ1
  have HM := Lib.hid (HC2.out.state HS2.out.gate HSZ2.out (by simp; omega) HX.out HST.out (by decide) (by decide))
  clear heq
  go_wp2_with fail
  refine HM.out.mono ?_
  rintro e w3 ⟨rfl, hs, hc⟩
  have HK3 := Lib.hid (hs.blk HS2.out.gate HK2.out (by decide) (by decide) (fun x => x))
  have HS3 := Lib.hid (HS2.out.trans hs (fun _ _ x => x))
  have HC3 := Lib.hid hc
  have HSZ3 := Lib.hid (Nat.le_trans HSZ2.out hs.fr.size)
  clear hs hc HM HK2 HS2 HC2 HSZ2
  have HM := Lib.hid (HC3.out.marked HS3.out.gate HSZ3.out (by simp; omega) HRB.out)
  go_wp2_with fail
  refine HM.out.mono ?_
  rintro e w4 ⟨rfl, hs, hc⟩
  have HK4 := Lib.hid (hs.blk HS3.out.gate HK3.out (by decide) (by decide) (fun x => x))
  have HS4 := Lib.hid (HS3.out.trans hs (fun _ _ x => x))
  have HC4 := Lib.hid hc
  have HSZ4 := Lib.hid (Nat.le_trans HSZ3.out hs.fr.size)
  clear hs hc HM HK3 HS3 HC3 HSZ3
  have HM := Lib.hid (len_apiPair R X w4 HC4.out.rep b _ HRB.out)
  go_wp2_with fail
  refine HM.out.mono ?_
  rintro e w' ⟨rfl, rfl⟩
  clear HM
  go_wp2
  go_loopw [10, 37] (fun v k wr => ∃ j : Nat, j ≤ fl.length ∧ k = .int .i64 j ∧ LxAt B B' g w rc ks R X bs l fl j v wr) (fun _ k _ => fl.length - (intOf k).toNat)
  case atStart => exact ⟨0, Nat.zero_le _, rfl, by simpa using HS4.out, HC4.out, World.ownsRow_nil _ _ _ _, HK4.out⟩
  case round =>
    clear HS4 HC4 HK4 HSZ4
    obtain ⟨j, hj, rfl, hI⟩ := hrel
    have HI := Lib.hid hI
    have HSZ := Lib.hid (show B' ≤ wr.heap.size by have := hI.st.fr.size; have := HRC.out; omega)
    clear hI
    by_cases hlt : j < fl.length
    · have HG := Lib.hid (HI.out.chn.getJ HI.out.st.gate HSZ.out (by simp; omega) HRB.out hlt)
      have HT := Lib.hid (take_next (fl.map pv) j (by simpa using hlt))
      have HE := Lib.hid (show (fl.map pv)[j]'(by simpa using hlt) = pv fl[j] by simp)
      generalize fl[j] = p at *
      go_wp2_with fail
      refine HG.out.mono ?_
      rintro e w5 ⟨rfl, hs, hc⟩
      have HK5 := Lib.hid (hs.blk HI.out.st.gate HI.out.cell (by decide) (by decide) (fun x => x))
      have HO5 := Lib.hid (owns_fr HI.out.own hs.fr (fun k hk hx => by
        rcases hx with hx | hx
        · obtain ⟨ys, hy⟩ := owns_typed HI.out.own k hk
          exact HI.out.st.gate.apart hy (by decide) (by decide) hx
        · exact hx))
      have HS5 := Lib.hid (HI.out.st.trans hs (fun _ _ x => x))
      have HC5 := Lib.hid hc
      clear hs hc HG
      go_wp2_with (at_builtin; refine print_append_cells (w0 := w5) w.heap.size rfl _ _ TPRs THRapiPair (.pointer none) 1 8 rfl Try.underlying93 pinfo_prec rfl (by decide) (by decide) u10 j _ [pv p] rfl rfl rfl (by simp [Value.oneCell']) HO5.out (Below.refl _ _) (by have := HS5.out.fr.size; omega) (by omega) ?_)
      intro a1 w6 hown1 hb1 hg1 hat1
      have HK6 := Lib.hid ((Fr.of_grown hg1).blk HK5.out (fun e => by
        obtain ⟨ys, hy⟩ := owns_typed HO5.out rc e.symm
        exact absurd (hy.inj HK5.out).1 (by decide)))
      have hS : ∀ k, some k = u10.ownBlock → w.heap.size ≤ k ∧ ∃ T ys, Blk w5 k T ys ∧ T = THRapiPair := fun k hk => by
        obtain ⟨ys, hy⟩ := owns_typed HO5.out k hk.symm
        exact ⟨(World.ownsRow.lt HO5.out k hk.symm).1, _, ys, hy, rfl⟩
      have HS6 := Lib.hid (step_new HS5.out (Fr.of_grown hg1) (fun k hk => by
        obtain ⟨h1, T, ys, hy, rfl⟩ := hS k hk
        exact ⟨h1, _, ys, hy, by decide, by decide⟩))
      have HC6 := Lib.hid (HC5.out.types (Fr.of_grown hg1) (fun k hk => by
        obtain ⟨h1, T, ys, hy, rfl⟩ := hS k hk
        exact ⟨_, ys, hy, by decide, by decide, by decide⟩))
      have HI2 := Lib.hid (show LxAt B B' g w rc ks R X bs l fl (j + 1) a1 w6 from ⟨by
        have := HS6.out
        rwa [List.append_assoc, ← List.replicate_succ'] at this, HC6.out, by rw [← HT.out, HE.out]; exact hown1, HK6.out⟩)
      clear hown1 hb1 hg1 hat1 hS HK5 HO5 HS5 HC5 HK6 HS6 HC6 HT HE
      go_wp2
      go_roundw
      case rel => exact ⟨j + 1, by omega, by go_num, HI2.out⟩
      case measure => simp [intOf]; omega
    · have hje : j = fl.length := by omega
      subst hje
      have HM := Lib.hid (HI.out.chn.info HI.out.st.gate HSZ.out (by simp; omega) HRB.out)
      go_wp2_with fail
      refine HM.out.mono ?_
      rintro e w5 ⟨rfl, hs, hc, heq⟩
      have HK5 := Lib.hid (hs.blk HI.out.st.gate HI.out.cell (by decide) (by decide) (fun x => x))
      have HO5 := Lib.hid (owns_fr HI.out.own hs.fr (fun k hk hx => by
        rcases hx with hx | hx
        · obtain ⟨ys, hy⟩ := owns_typed HI.out.own k hk
          exact HI.out.st.gate.apart hy (by decide) (by decide) hx
        · exact hx))
      have HS5 := Lib.hid (HI.out.st.trans hs (fun _ _ x => x))
      have HC5 := Lib.hid hc
      clear hs hc HM
      obtain ⟨A9, c9, e9, _, _⟩ := owns_slice HO5.out
      subst e9
      have k0 := HK5.out.cell 0
      have k1 := HK5.out.cell 1
      have k2 := HK5.out.cell 2
      have kz0 : w5.frozen? ⟨rc, 0, none⟩ = false := HK5.out.free _ rfl
      have kz1 : w5.frozen? ⟨rc, 1, none⟩ = false := HK5.out.free _ rfl
      have kz2 : w5.frozen? ⟨rc, 2, none⟩ = false := HK5.out.free _ rfl
      simp only [List.getElem?_cons_zero, List.getElem?_cons_succ] at k0 k1 k2
      go_wp2
      have hf := set3_fr w5 rc (.pointer (some ⟨b, 0, none⟩)) (.pointer (some ⟨x, 0, none⟩)) (.slice A9 fl.length c9)
      have hk : Blk _ rc TLK [.pointer (some ⟨b, 0, none⟩), .pointer (some ⟨x, 0, none⟩), .slice A9 fl.length c9] := ((HK5.out.set 0 (.pointer (some ⟨b, 0, none⟩))).set 1 (.pointer (some ⟨x, 0, none⟩))).set 2 (.slice A9 fl.length c9)
      refine bodyPost_ret (results_ct rfl _ _ rc TLK _ (0, 0) _ rfl hk Try.underlying95 rfl lksize) rfl ?_
      refine HQ'.out _ _ ⟨_, rfl, ?_, ?_, ?_⟩
      · have ht := owns_fr HO5.out hf (fun q hq hx => by
          rw [hx] at hq
          obtain ⟨ys, hy⟩ := owns_typed HO5.out rc hq
          exact absurd (hy.inj HK5.out).1 (by decide))
        rw [List.take_of_length_le (by simp), HRC.out] at ht
        exact ht
      · have := step_new HS5.out hf (fun k hk => ⟨by rw [hk, HRC.out]; exact Nat.le_refl _, _, _, hk ▸ HK5.out, by decide, by decide⟩)
        rwa [show ks ++ [1, 1, 1, 1] ++ List.replicate fl.length 1 ++ [1] = ks ++ List.replicate (fl.length + 5) 1 from by
          rw [List.append_assoc, List.append_assoc, ← List.replicate_succ', show ([1, 1, 1, 1] : List Int) = List.replicate 4 1 from rfl, List.replicate_append_replicate]
          congr 2
          omega] at this
      · exact HC5.out.types hf (fun k hk => ⟨_, _, hk ▸ HK5.out, by decide, by decide, by decide⟩)
end Go.Proofs.Yteeficpjggimcaa

/- chain: link, linkTo. -/
namespace Go.Proofs.Yteeficpjggimcaa
open Go.RowKit Go.Proofs.YteeficpjggimcaaW.PrintWords
set_option linter.unusedVariables false
set_option linter.unusedSimpArgs false

section
variable {B B' : Nat} {w w' w1 W : World} {g : Option Nat} {ks ks' : List Int} {R : Nat → Option RecO} {X : Nat → Option ScxO} {bs : List Nat} {l : List (Int × Int)}
theorem Chn.llx (h : Chn B w R X bs l) (hg : GAtI w B' g ks) (hB : B' ≤ w.heap.size) (hl : ks.length ≤ 900000000)
    {b fb x : Nat} {D : List Value} {fl : List (Option Nat)} (hb : R b = some ⟨D, fb, fl, some x, false⟩) (hfl : fl.length ≤ 1000) {o : ScxO} (hx : X x = some o) (hst : o.state = 1 ∨ o.state = 2) :
    Calls Try.prog 54 #[gvI g, .pointer (some ⟨b, 0, none⟩)] w fun e w' => ∃ v, e = .returned (.tuple #[.agg #[.pointer (some ⟨b, 0, none⟩), .pointer (some ⟨x, 0, none⟩), v], .int .i64 1]) ∧
      w'.ownsRow w.heap.size THRapiPair 1 v fl.length (fl.map pv) ∧ StepI B' g w w' (ks ++ List.replicate (fl.length + 5) 1) (fun _ => False) ∧ Chn B w' R X bs l := by
  rcases hst with hst | hst
  · exact llx_1 B B' w g ks R X bs l h hg hB hl b fb x D fl hb hfl o hx hst
  · exact llx_2 B B' w g ks R X bs l h hg hB hl b fb x D fl hb hfl o hx hst
theorem owns_one {base e c : Nat} {A : Option Addr} {u : Value} (h : w.ownsRow base e 1 (.slice A 1 c) 1 [u]) : ∃ a, A = some ⟨a, 0, none⟩ ∧ w.cell? ⟨a, 0, none⟩ = some u ∧ base ≤ a := by
  obtain ⟨a, c', rest, hv, ha, _, hb⟩ := owns_blk h (by simp)
  simp only [Value.slice.injEq] at hv
  exact ⟨a, hv.1, hb.cell 0, ha⟩
/-- A row of the call's own, where something of another type has turned. -/
theorem owns_types {S : Nat → Prop} {base e n : Nat} {v : Value} {us : List Value} (h : w.ownsRow base e 1 v n us) (hf : Fr w w' S) (hS : ∀ k, S k → ∃ T ys, Blk w k T ys ∧ T ≠ e) : w'.ownsRow base e 1 v n us :=
  owns_fr h hf (fun k hk hx => by
    obtain ⟨T, ys, hy, hT⟩ := hS k hx
    obtain ⟨zs, hz⟩ := owns_typed h k hk
    exact hT (hy.inj hz).1)
end
set_option maxHeartbeats 4000000 in
set_option maxRecDepth 100000 in
theorem Chn.link {B B' : Nat} {w : World} {g : Option Nat} {ks : List Int} {R : Nat → Option RecO} {X : Nat → Option ScxO} {bs : List Nat} {l : List (Int × Int)} (h : Chn B w R X bs l) (hg : GAtI w B' g ks) (hB : B' ≤ w.heap.size) (hl : ks.length ≤ 900000000)
    {b fb x : Nat} {D : List Value} {fl : List (Option Nat)} (hb : R b = some ⟨D, fb, fl, some x, false⟩) (hfl : fl.length ≤ 1000) {o : ScxO} (hx : X x = some o) (hst : o.state = 1 ∨ o.state = 2) :
    Calls Try.prog 43 #[gvI g, .pointer (some ⟨b, 0, none⟩)] w fun e w' => ∃ A c, e = .returned (.tuple #[.agg #[.pointer (some ⟨b, 0, none⟩), .pointer (some ⟨x, 0, none⟩), .slice A fl.length c], .bool true]) ∧
      w'.ownsRow w.heap.size THRapiPair 1 (.slice A fl.length c) fl.length (fl.map pv) ∧ StepI B' g w w' (ks ++ List.replicate (fl.length + 5) 1) (fun _ => False) ∧ Chn B w' R X bs l := by
  refine calls_hide fun Q HQ => ?_
  have HQ' := Lib.hid HQ
  have HK := Lib.hid (Blk.new w TLK [.pointer none, .pointer none, .slice none 0 0])
  have hs0 := hg.below0 ((Below.refl w.heap.size w).alloc (Nat.le_refl _) (.cells #[.pointer none, .pointer none, .slice none 0 0] TLK)) (fun _ => False)
  have HS0 := Lib.hid hs0
  have HL := Lib.hid ((h.below ((Below.refl w.heap.size w).alloc (Nat.le_refl _) (.cells #[.pointer none, .pointer none, .slice none 0 0] TLK))).llx hs0.gate (by simp; omega) hl hb hfl hx hst)
  have HSZ := Lib.hid (show w.heap.size < (w.alloc (.cells #[.pointer none, .pointer none, .slice none 0 0] TLK)).heap.size by simp)
  clear HQ h hg hb hx hst hs0
  go_enter Try.func43, Try.ntmps43
  go_wp2_with fail
  generalize w.alloc (.cells #[.pointer none, .pointer none, .slice none 0 0] 95) = w0 at *
  generalize hrc : w.heap.size = rc at *
  have HRC := Lib.hid hrc
  clear hrc
  refine HL.out.mono ?_
  rintro e w1 ⟨v, rfl, ho, hs, hc⟩
  obtain ⟨A, c, ev, _, _⟩ := owns_slice ho
  subst ev
  have HK1 := Lib.hid (hs.blk HS0.out.gate HK.out (by decide) (by decide) (fun x => x))
  have HO1 := Lib.hid (Go.Proofs.YteeficpjggimcaaW.PrintWords.own_weaken ho (show rc ≤ w0.heap.size by have := HSZ.out; omega))
  have HS1 := Lib.hid (HS0.out.trans hs (fun _ _ x => x))
  have HC1 := Lib.hid hc
  clear hs hc ho HL HK HS0
  have hbw := (Below.refl w1.heap.size w1).alloc (Nat.le_refl _) (.cells #[.pointer (some ⟨b, 0, none⟩), .pointer (some ⟨x, 0, none⟩), .slice A fl.length c] TLK)
  have HK2 := Lib.hid (HK1.out.below hbw HK1.out.lt)
  have HN2 := Lib.hid (Blk.new w1 TLK [.pointer (some ⟨b, 0, none⟩), .pointer (some ⟨x, 0, none⟩), .slice A fl.length c])
  have HO2 := Lib.hid (owns_fr HO1.out (Fr.of_below0 (S := fun _ => False) hbw) (fun _ _ => id))
  have HS2 := Lib.hid (step_new HS1.out (Fr.of_below0 (S := fun _ => False) hbw) (fun _ hk => hk.elim))
  have HC2 := Lib.hid (HC1.out.below hbw)
  have k0 := HK2.out.cell 0
  have k1 := HK2.out.cell 1
  have k2 := HK2.out.cell 2
  have kz0 : (w1.alloc (.cells #[.pointer (some ⟨b, 0, none⟩), .pointer (some ⟨x, 0, none⟩), .slice A fl.length c] TLK)).frozen? ⟨rc, 0, none⟩ = false := HK2.out.free _ rfl
  have kz1 : (w1.alloc (.cells #[.pointer (some ⟨b, 0, none⟩), .pointer (some ⟨x, 0, none⟩), .slice A fl.length c] TLK)).frozen? ⟨rc, 1, none⟩ = false := HK2.out.free _ rfl
  have kz2 : (w1.alloc (.cells #[.pointer (some ⟨b, 0, none⟩), .pointer (some ⟨x, 0, none⟩), .slice A fl.length c] TLK)).frozen? ⟨rc, 2, none⟩ = false := HK2.out.free _ rfl
  have n0 := HN2.out.cell 0
  have n1 := HN2.out.cell 1
  have n2 := HN2.out.cell 2
  simp only [List.getElem?_cons_zero, List.getElem?_cons_succ] at k0 k1 k2 n0 n1 n2
  clear hbw HK1 HO1 HS1 HC1
  go_wp2
  have hf := set3_fr (w1.alloc (.cells #[.pointer (some ⟨b, 0, none⟩), .pointer (some ⟨x, 0, none⟩), .slice A fl.length c] TLK)) rc (.pointer (some ⟨b, 0, none⟩)) (.pointer (some ⟨x, 0, none⟩)) (.slice A fl.length c)
  have hk : Blk _ rc TLK [.pointer (some ⟨b, 0, none⟩), .pointer (some ⟨x, 0, none⟩), .slice A fl.length c] := ((HK2.out.set 0 (.pointer (some ⟨b, 0, none⟩))).set 1 (.pointer (some ⟨x, 0, none⟩))).set 2 (.slice A fl.length c)
  refine bodyPost_ret (results_ct rfl _ _ rc TLK _ (0, 0) _ rfl hk Try.underlying95 rfl lksize) rfl ?_
  have hS : ∀ k, k = rc → ∃ T ys, Blk (w1.alloc (.cells #[.pointer (some ⟨b, 0, none⟩), .pointer (some ⟨x, 0, none⟩), .slice A fl.length c] TLK)) k T ys ∧ T = TLK := fun k hk => ⟨_, _, hk ▸ HK2.out, rfl⟩
  refine HQ'.out _ _ ⟨A, c, rfl, ?_, ?_, ?_⟩
  · exact owns_types HO2.out hf (fun k hk => by obtain ⟨T, ys, hy, rfl⟩ := hS k hk; exact ⟨_, ys, hy, by decide⟩)
  · exact step_new HS2.out hf (fun k hk => by obtain ⟨T, ys, hy, rfl⟩ := hS k hk; exact ⟨by rw [hk, HRC.out]; exact Nat.le_refl _, _, ys, hy, by decide, by decide⟩)
  · exact HC2.out.types hf (fun k hk => by obtain ⟨T, ys, hy, rfl⟩ := hS k hk; exact ⟨_, ys, hy, by decide, by decide, by decide⟩)
theorem psz_prec : ∃ i, Try.prog.info? 86 = some i ∧ i.size ≠ 0 := by
  obtain ⟨i, hi, hz⟩ := Option.map_eq_some_iff.1 size_RecordapiPair
  exact ⟨i, hi, by simpa using hz⟩
theorem eql_prec {w : World} {x y : Option Nat} (hx : PtrTo TPR 5 w x) (hy : PtrTo TPR 5 w y) : (binOp .eql THRapiPair (pv x) (pv y)).run Try.prog w = .ok (.bool (decide (x = y))) w := by
  obtain ⟨i, hi, hsz⟩ := psz_prec
  exact run_eql_ptr (P := Try.prog) (w := w) (x := x) (y := y) Try.underlying58 hi hsz hx.known hy.known
theorem eql_prec_refl {w : World} {n : Nat} (h : PtrTo TPR 5 w (some n)) : (binOp .eql THRapiPair (.pointer (some ⟨n, 0, none⟩)) (.pointer (some ⟨n, 0, none⟩))).run Try.prog w = .ok (.bool true) w := by
  have := eql_prec h h
  rwa [decide_eq_true rfl] at this
set_option maxHeartbeats 4000000 in
set_option maxRecDepth 100000 in
theorem Chn.linkTo {B B' : Nat} {w : World} {g : Option Nat} {ks : List Int} {R : Nat → Option RecO} {X : Nat → Option ScxO} {bs : List Nat} {l : List (Int × Int)} (h : Chn B w R X bs l) (hg : GAtI w B' g ks) (hB : B' ≤ w.heap.size) (hl : ks.length ≤ 900000000)
    {b fb x : Nat} {D : List Value} {n : Nat} (hb : R b = some ⟨D, fb, [some n], some x, false⟩) {o : ScxO} (hx : X x = some o) (hst : o.state = 1 ∨ o.state = 2) :
    Calls Try.prog 41 #[gvI g, .pointer (some ⟨b, 0, none⟩), .pointer (some ⟨n, 0, none⟩)] w fun e w' => ∃ A c, e = .returned (.tuple #[.agg #[.pointer (some ⟨b, 0, none⟩), .pointer (some ⟨x, 0, none⟩), .slice A 1 c], .bool true]) ∧
      w'.ownsRow w.heap.size THRapiPair 1 (.slice A 1 c) 1 [pv (some n)] ∧ StepI B' g w w' (ks ++ List.replicate (6) 1) (fun _ => False) ∧ Chn B w' R X bs l := by
  refine calls_hide fun Q HQ => ?_
  have HQ' := Lib.hid HQ
  have HNR := Lib.hid (show Ok R (some n) from fun q e => by cases e; exact h.rep.kf _ _ hb n (by simp))
  have HK := Lib.hid (Blk.new w TLK [.pointer none, .pointer none, .slice none 0 0])
  have hs0 := hg.below0 ((Below.refl w.heap.size w).alloc (Nat.le_refl _) (.cells #[.pointer none, .pointer none, .slice none 0 0] TLK)) (fun _ => False)
  have HS0 := Lib.hid hs0
  have HL := Lib.hid ((h.below ((Below.refl w.heap.size w).alloc (Nat.le_refl _) (.cells #[.pointer none, .pointer none, .slice none 0 0] TLK))).link hs0.gate (by simp; omega) hl hb (by simp) hx hst)
  have HSZ := Lib.hid (show w.heap.size < (w.alloc (.cells #[.pointer none, .pointer none, .slice none 0 0] TLK)).heap.size by simp)
  clear HQ h hg hb hx hst hs0
  go_enter Try.func41, Try.ntmps41
  go_wp2_with fail
  generalize w.alloc (.cells #[.pointer none, .pointer none, .slice none 0 0] 95) = w0 at *
  generalize hrc : w.heap.size = rc at *
  have HRC := Lib.hid hrc
  clear hrc
  refine HL.out.mono ?_
  rintro e w1 ⟨A, c, rfl, ho, hs, hc⟩
  have HK1 := Lib.hid (hs.blk HS0.out.gate HK.out (by decide) (by decide) (fun x => x))
  have HO1 := Lib.hid (Go.Proofs.YteeficpjggimcaaW.PrintWords.own_weaken ho (show rc ≤ w0.heap.size by have := HSZ.out; omega))
  have HS1 := Lib.hid (HS0.out.trans hs (fun _ _ x => x))
  have HC1 := Lib.hid hc
  clear hs hc ho HL HK HS0
  have hbw := (Below.refl w1.heap.size w1).alloc (Nat.le_refl _) (.cells #[.pointer (some ⟨b, 0, none⟩), .pointer (some ⟨x, 0, none⟩), .slice A 1 c] TLK)
  have HK2 := Lib.hid (HK1.out.below hbw HK1.out.lt)
  have HN2 := Lib.hid (Blk.new w1 TLK [.pointer (some ⟨b, 0, none⟩), .pointer (some ⟨x, 0, none⟩), .slice A 1 c])
  have HO2 := Lib.hid (owns_fr HO1.out (Fr.of_below0 (S := fun _ => False) hbw) (fun _ _ => id))
  have HS2 := Lib.hid (step_new HS1.out (Fr.of_below0 (S := fun _ => False) hbw) (fun _ hk => hk.elim))
  have HC2 := Lib.hid (HC1.out.below hbw)
  have k0 := HK2.out.cell 0
  have k1 := HK2.out.cell 1
  have k2 := HK2.out.cell 2
  have kz0 : (w1.alloc (.cells #[.pointer (some ⟨b, 0, none⟩), .pointer (some ⟨x, 0, none⟩), .slice A 1 c] TLK)).frozen? ⟨rc, 0, none⟩ = false := HK2.out.free _ rfl
  have kz1 : (w1.alloc (.cells #[.pointer (some ⟨b, 0, none⟩), .pointer (some ⟨x, 0, none⟩), .slice A 1 c] TLK)).frozen? ⟨rc, 1, none⟩ = false := HK2.out.free _ rfl
  have kz2 : (w1.alloc (.cells #[.pointer (some ⟨b, 0, none⟩), .pointer (some ⟨x, 0, none⟩), .slice A 1 c] TLK)).frozen? ⟨rc, 2, none⟩ = false := HK2.out.free _ rfl
  have n0 := HN2.out.cell 0
  have n1 := HN2.out.cell 1
  have n2 := HN2.out.cell 2
  simp only [List.getElem?_cons_zero, List.getElem?_cons_succ] at k0 k1 k2 n0 n1 n2
  obtain ⟨a9, e9, hrow, _⟩ := owns_one HO2.out
  subst e9
  have hE := eql_prec_refl (HC2.out.rep.recPtr HNR.out)
  change _ = some (Value.pointer (some ⟨n, 0, none⟩)) at hrow
  have HK1L := Lib.hid HK1.out.lt
  clear hbw HK1 HO1 HS1 HC1
  go_wp2_with fail
  generalize w1.alloc (.cells #[.pointer (some ⟨b, 0, none⟩), .pointer (some ⟨x, 0, none⟩), .slice (some ⟨a9, 0, none⟩) 1 c] 95) = w2 at *
  have hE' : (binOp .eql THRapiPair (.pointer (some ⟨n, 0, none⟩)) (.pointer (some ⟨n, 0, none⟩))).run Try.prog w2.drew = .ok (.bool true) w2.drew := eql_prec_refl ((HC2.out.below (Below.refl _ _).drew).rep.recPtr HNR.out)
  have hrow' : w2.drew.cell? ⟨a9, 0, none⟩ = some (.pointer (some ⟨n, 0, none⟩)) := hrow
  have n0' : w2.drew.cell? ⟨w1.heap.size, 0, none⟩ = some (.pointer (some ⟨b, 0, none⟩)) := n0
  have n1' : w2.drew.cell? ⟨w1.heap.size, 1, none⟩ = some (.pointer (some ⟨x, 0, none⟩)) := n1
  have n2' : w2.drew.cell? ⟨w1.heap.size, 2, none⟩ = some (.slice (some ⟨a9, 0, none⟩) 1 c) := n2
  have k0' : w2.drew.cell? ⟨rc, 0, none⟩ = some (.pointer none) := k0
  have k1' : w2.drew.cell? ⟨rc, 1, none⟩ = some (.pointer none) := k1
  have k2' : w2.drew.cell? ⟨rc, 2, none⟩ = some (.slice none 0 0) := k2
  have kz0' : w2.drew.frozen? ⟨rc, 0, none⟩ = false := kz0
  have kz1' : w2.drew.frozen? ⟨rc, 1, none⟩ = false := kz1
  have kz2' : w2.drew.frozen? ⟨rc, 2, none⟩ = false := kz2
  have HK3 : Hid (Blk w2.drew rc TLK [.pointer none, .pointer none, .slice none 0 0]) := HK2
  have HO3 : Hid (w2.drew.ownsRow rc THRapiPair 1 (.slice (some ⟨a9, 0, none⟩) 1 c) 1 [pv (some n)]) := HO2
  have HS3 := Lib.hid (step_new HS2.out (Fr.of_below0 (S := fun _ => False) (Below.refl w2.heap.size w2).drew) (fun _ hk => hk.elim))
  have HC3 := Lib.hid (HC2.out.below (Below.refl w2.heap.size w2).drew)
  generalize hnb : w1.heap.size = nb at *
  have hne1 : rc ≠ nb := fun e => by
    have h1 := HK1L.out
    omega
  have hne2 : rc ≠ a9 := fun e => by
    obtain ⟨ys, hy⟩ := owns_typed HO3.out a9 rfl
    exact absurd ((e ▸ hy).inj HK3.out).1 (by decide)
  have hne3 := hne1.symm
  have hne4 := hne2.symm
  clear hnb
  have hf := set3_fr w2 rc (.pointer (some ⟨b, 0, none⟩)) (.pointer (some ⟨x, 0, none⟩)) (.slice (some ⟨a9, 0, none⟩) 1 c)
  have hk : Blk _ rc TLK [.pointer (some ⟨b, 0, none⟩), .pointer (some ⟨x, 0, none⟩), .slice (some ⟨a9, 0, none⟩) 1 c] := ((HK2.out.set 0 (.pointer (some ⟨b, 0, none⟩))).set 1 (.pointer (some ⟨x, 0, none⟩))).set 2 (.slice (some ⟨a9, 0, none⟩) 1 c)
  have hS : ∀ k, k = rc → ∃ T ys, Blk w2 k T ys ∧ T = TLK := fun k hk => ⟨_, _, hk ▸ HK2.out, rfl⟩
  have HO4 := Lib.hid (owns_types HO2.out hf (fun k hk => by obtain ⟨T, ys, hy, rfl⟩ := hS k hk; exact ⟨_, ys, hy, by decide⟩))
  have HS4 := Lib.hid (step_new HS2.out hf (fun k hk => by obtain ⟨T, ys, hy, rfl⟩ := hS k hk; exact ⟨by rw [hk, HRC.out]; exact Nat.le_refl _, _, ys, hy, by decide, by decide⟩))
  have HC4 := Lib.hid (HC2.out.types hf (fun k hk => by obtain ⟨T, ys, hy, rfl⟩ := hS k hk; exact ⟨_, ys, hy, by decide, by decide, by decide⟩))
  have HK4 := Lib.hid hk
  have hE4 := eql_prec_refl (HC4.out.rep.recPtr HNR.out)
  have hE5 := eql_prec_refl ((HC4.out.below (Below.refl _ _).drew).rep.recPtr HNR.out)
  clear hf hk hS
  go_region
  have hdr := (Below.refl ((((w2.setCell ⟨rc, 0, none⟩ (.pointer (some ⟨b, 0, none⟩))).setCell ⟨rc, 1, none⟩ (.pointer (some ⟨x, 0, none⟩))).setCell ⟨rc, 2, none⟩ (.slice (some ⟨a9, 0, none⟩) 1 c))).heap.size ((((w2.setCell ⟨rc, 0, none⟩ (.pointer (some ⟨b, 0, none⟩))).setCell ⟨rc, 1, none⟩ (.pointer (some ⟨x, 0, none⟩))).setCell ⟨rc, 2, none⟩ (.slice (some ⟨a9, 0, none⟩) 1 c)))).drew
  go_wp2
  refine bodyPost_ret (results_ct rfl _ _ rc TLK _ (0, 0) _ rfl (HK4.out.below hdr HK4.out.lt) Try.underlying95 rfl lksize) rfl ?_
  exact HQ'.out _ _ ⟨_, c, rfl, owns_fr HO4.out (Fr.of_below0 (S := fun _ => False) hdr) (fun _ _ => id), step_new HS4.out (Fr.of_below0 (S := fun _ => False) hdr) (fun _ hk => hk.elim), HC4.out.below hdr⟩
end Go.Proofs.Yteeficpjggimcaa

/- slices.Clone, slices.Index at the types that are met. Written by mk.py. -/
namespace Go.Proofs.Yteeficpjggimcaa
open Go.RowKit Go.Proofs.YteeficpjggimcaaW.PrintWords
set_option linter.unusedVariables false
set_option linter.unusedSimpArgs false

theorem cinfo_PRecordapiPair : (Try.prog.info? 58).map (fun i => (i.zero, i.size, i.bytes)) = some (some (.pointer none), 1, 8) := by kernel_rfl
set_option maxHeartbeats 400000 in
theorem clone_nil_PRecordapiPair (w : World) : Calls Try.prog 75 #[.slice none 0 0] w fun e w' => e = .returned (.slice none 0 0) ∧ w = w' := by
  have hn := fun a n c w => Lib.run_eql_slice_nil (P := Try.prog) w 93 58 a n c 0 0 Try.underlying93
  go_enter Try.func75, Try.ntmps75
  go_wp2
  go_ret
  exact ⟨rfl, rfl⟩
set_option maxHeartbeats 400000 in
theorem clone_PRecordapiPair (ad : Addr) (n c : Nat) (us : List Value) (w : World) (hr : Row1 w (some ad) n us) (h1 : ∀ u ∈ us, u.oneCell' = true) (hl : n ≤ 1000000000000) :
    Calls Try.prog 75 #[.slice (some ad) n c] w fun e w' => ∃ v, e = .returned v ∧ w'.ownsRow w.heap.size 58 1 v n us ∧ ¬ v = .slice none 0 0 ∧ Below w.heap.size w w' := by
  have hn := fun a n c w => Lib.run_eql_slice_nil (P := Try.prog) w 93 58 a n c 0 0 Try.underlying93
  obtain ⟨i0, hi, hz0, hz1, hz2⟩ := info_parts cinfo_PRecordapiPair
  have hlen : us.length = n * 1 := by have := hr.1; omega
  have hbase := World.ownsRow_made (base := w.heap.size) (e := 58) (size := 1) w #[] 0 (Nat.le_refl _) (by decide) rfl
  have hcells : ∀ j u, us[j]? = some u → (w.alloc (.cells #[] 58)).cell? (ad.add j) = some u := fun j u hu => by
    obtain ⟨ad', e, hc⟩ := hr.at_ hu
    cases e
    exact pw_cell_below ((Below.refl w.heap.size w).alloc (Nat.le_refl _) _) hc
  refine calls_hide fun Q HQ => ?_
  have HQ' := Lib.hid HQ
  have HL := Lib.hid hlen
  have HC := Lib.hid hcells
  have H1 := Lib.hid h1
  have HB := Lib.hid hbase
  clear HQ hlen hr hcells h1 hbase
  go_enter Try.func75, Try.ntmps75
  go_wp2_with (at_builtin; refine wpList_append_own _ rfl _ _ 93 rfl w.heap.size 58 i0 (.pointer none) 1 8 Try.underlying93 hi hz0 hz1 hz2 rfl (by decide) _ 0 [] rfl HB.out ad n c us rfl HL.out HC.out H1.out (by simp only [maxLen]; omega) (by omega) (by simp) ?_)
  intro v1 w1 hown hg hnil
  have hnn : ¬ v1 = .slice none 0 0 := hnil
  have H2 := Lib.hid (show w1.ownsRow w.heap.size 58 1 v1 n us by simpa using hown)
  have H3 := Lib.hid hnn
  have H4 := Lib.hid (((Below.refl w.heap.size w).alloc (Nat.le_refl _) _).grown hg (by simp) (fun k hk => by simp [Value.ownBlock] at hk; omega))
  clear hown hg hnil hnn HL HC H1 HB
  go_wp2
  exact HQ'.out _ _ ⟨_, rfl, H2.out, H3.out, H4.out⟩

theorem cinfo_PScxapiPair : (Try.prog.info? 71).map (fun i => (i.zero, i.size, i.bytes)) = some (some (.pointer none), 1, 8) := by kernel_rfl
set_option maxHeartbeats 400000 in
theorem clone_nil_PScxapiPair (w : World) : Calls Try.prog 76 #[.slice none 0 0] w fun e w' => e = .returned (.slice none 0 0) ∧ w = w' := by
  have hn := fun a n c w => Lib.run_eql_slice_nil (P := Try.prog) w 108 71 a n c 0 0 Try.underlying108
  go_enter Try.func76, Try.ntmps76
  go_wp2
  go_ret
  exact ⟨rfl, rfl⟩
set_option maxHeartbeats 400000 in
theorem clone_PScxapiPair (ad : Addr) (n c : Nat) (us : List Value) (w : World) (hr : Row1 w (some ad) n us) (h1 : ∀ u ∈ us, u.oneCell' = true) (hl : n ≤ 1000000000000) :
    Calls Try.prog 76 #[.slice (some ad) n c] w fun e w' => ∃ v, e = .returned v ∧ w'.ownsRow w.heap.size 71 1 v n us ∧ ¬ v = .slice none 0 0 ∧ Below w.heap.size w w' := by
  have hn := fun a n c w => Lib.run_eql_slice_nil (P := Try.prog) w 108 71 a n c 0 0 Try.underlying108
  obtain ⟨i0, hi, hz0, hz1, hz2⟩ := info_parts cinfo_PScxapiPair
  have hlen : us.length = n * 1 := by have := hr.1; omega
  have hbase := World.ownsRow_made (base := w.heap.size) (e := 71) (size := 1) w #[] 0 (Nat.le_refl _) (by decide) rfl
  have hcells : ∀ j u, us[j]? = some u → (w.alloc (.cells #[] 71)).cell? (ad.add j) = some u := fun j u hu => by
    obtain ⟨ad', e, hc⟩ := hr.at_ hu
    cases e
    exact pw_cell_below ((Below.refl w.heap.size w).alloc (Nat.le_refl _) _) hc
  refine calls_hide fun Q HQ => ?_
  have HQ' := Lib.hid HQ
  have HL := Lib.hid hlen
  have HC := Lib.hid hcells
  have H1 := Lib.hid h1
  have HB := Lib.hid hbase
  clear HQ hlen hr hcells h1 hbase
  go_enter Try.func76, Try.ntmps76
  go_wp2_with (at_builtin; refine wpList_append_own _ rfl _ _ 108 rfl w.heap.size 71 i0 (.pointer none) 1 8 Try.underlying108 hi hz0 hz1 hz2 rfl (by decide) _ 0 [] rfl HB.out ad n c us rfl HL.out HC.out H1.out (by simp only [maxLen]; omega) (by omega) (by simp) ?_)
  intro v1 w1 hown hg hnil
  have hnn : ¬ v1 = .slice none 0 0 := hnil
  have H2 := Lib.hid (show w1.ownsRow w.heap.size 71 1 v1 n us by simpa using hown)
  have H3 := Lib.hid hnn
  have H4 := Lib.hid (((Below.refl w.heap.size w).alloc (Nat.le_refl _) _).grown hg (by simp) (fun k hk => by simp [Value.ownBlock] at hk; omega))
  clear hown hg hnil hnn HL HC H1 HB
  go_wp2
  exact HQ'.out _ _ ⟨_, rfl, H2.out, H3.out, H4.out⟩

theorem cinfo_bool : (Try.prog.info? 4).map (fun i => (i.zero, i.size, i.bytes)) = some (some (.bool false), 1, 1) := by kernel_rfl
set_option maxHeartbeats 400000 in
theorem clone_nil_bool (w : World) : Calls Try.prog 77 #[.slice none 0 0] w fun e w' => e = .returned (.slice none 0 0) ∧ w = w' := by
  have hn := fun a n c w => Lib.run_eql_slice_nil (P := Try.prog) w 109 4 a n c 0 0 Try.underlying109
  go_enter Try.func77, Try.ntmps77
  go_wp2
  go_ret
  exact ⟨rfl, rfl⟩
set_option maxHeartbeats 400000 in
theorem clone_bool (ad : Addr) (n c : Nat) (us : List Value) (w : World) (hr : Row1 w (some ad) n us) (h1 : ∀ u ∈ us, u.oneCell' = true) (hl : n ≤ 1000000000000) :
    Calls Try.prog 77 #[.slice (some ad) n c] w fun e w' => ∃ v, e = .returned v ∧ w'.ownsRow w.heap.size 4 1 v n us ∧ ¬ v = .slice none 0 0 ∧ Below w.heap.size w w' := by
  have hn := fun a n c w => Lib.run_eql_slice_nil (P := Try.prog) w 109 4 a n c 0 0 Try.underlying109
  obtain ⟨i0, hi, hz0, hz1, hz2⟩ := info_parts cinfo_bool
  have hlen : us.length = n * 1 := by have := hr.1; omega
  have hbase := World.ownsRow_made (base := w.heap.size) (e := 4) (size := 1) w #[] 0 (Nat.le_refl _) (by decide) rfl
  have hcells : ∀ j u, us[j]? = some u → (w.alloc (.cells #[] 4)).cell? (ad.add j) = some u := fun j u hu => by
    obtain ⟨ad', e, hc⟩ := hr.at_ hu
    cases e
    exact pw_cell_below ((Below.refl w.heap.size w).alloc (Nat.le_refl _) _) hc
  refine calls_hide fun Q HQ => ?_
  have HQ' := Lib.hid HQ
  have HL := Lib.hid hlen
  have HC := Lib.hid hcells
  have H1 := Lib.hid h1
  have HB := Lib.hid hbase
  clear HQ hlen hr hcells h1 hbase
  go_enter Try.func77, Try.ntmps77
  go_wp2_with (at_builtin; refine wpList_append_own _ rfl _ _ 109 rfl w.heap.size 4 i0 (.bool false) 1 1 Try.underlying109 hi hz0 hz1 hz2 rfl (by decide) _ 0 [] rfl HB.out ad n c us rfl HL.out HC.out H1.out (by simp only [maxLen]; omega) (by omega) (by simp) ?_)
  intro v1 w1 hown hg hnil
  have hnn : ¬ v1 = .slice none 0 0 := hnil
  have H2 := Lib.hid (show w1.ownsRow w.heap.size 4 1 v1 n us by simpa using hown)
  have H3 := Lib.hid hnn
  have H4 := Lib.hid (((Below.refl w.heap.size w).alloc (Nat.le_refl _) _).grown hg (by simp) (fun k hk => by simp [Value.ownBlock] at hk; omega))
  clear hown hg hnil hnn HL HC H1 HB
  go_wp2
  exact HQ'.out _ _ ⟨_, rfl, H2.out, H3.out, H4.out⟩

theorem cinfo_int : (Try.prog.info? 3).map (fun i => (i.zero, i.size, i.bytes)) = some (some (.int .i64 0), 1, 8) := by kernel_rfl
set_option maxHeartbeats 400000 in
theorem clone_nil_int (w : World) : Calls Try.prog 47 #[.slice none 0 0] w fun e w' => e = .returned (.slice none 0 0) ∧ w = w' := by
  have hn := fun a n c w => Lib.run_eql_slice_nil (P := Try.prog) w 24 3 a n c 0 0 Try.underlying24
  go_enter Try.func47, Try.ntmps47
  go_wp2
  go_ret
  exact ⟨rfl, rfl⟩
set_option maxHeartbeats 400000 in
theorem clone_int (ad : Addr) (n c : Nat) (us : List Value) (w : World) (hr : Row1 w (some ad) n us) (h1 : ∀ u ∈ us, u.oneCell' = true) (hl : n ≤ 1000000000000) :
    Calls Try.prog 47 #[.slice (some ad) n c] w fun e w' => ∃ v, e = .returned v ∧ w'.ownsRow w.heap.size 3 1 v n us ∧ ¬ v = .slice none 0 0 ∧ Below w.heap.size w w' := by
  have hn := fun a n c w => Lib.run_eql_slice_nil (P := Try.prog) w 24 3 a n c 0 0 Try.underlying24
  obtain ⟨i0, hi, hz0, hz1, hz2⟩ := info_parts cinfo_int
  have hlen : us.length = n * 1 := by have := hr.1; omega
  have hbase := World.ownsRow_made (base := w.heap.size) (e := 3) (size := 1) w #[] 0 (Nat.le_refl _) (by decide) rfl
  have hcells : ∀ j u, us[j]? = some u → (w.alloc (.cells #[] 3)).cell? (ad.add j) = some u := fun j u hu => by
    obtain ⟨ad', e, hc⟩ := hr.at_ hu
    cases e
    exact pw_cell_below ((Below.refl w.heap.size w).alloc (Nat.le_refl _) _) hc
  refine calls_hide fun Q HQ => ?_
  have HQ' := Lib.hid HQ
  have HL := Lib.hid hlen
  have HC := Lib.hid hcells
  have H1 := Lib.hid h1
  have HB := Lib.hid hbase
  clear HQ hlen hr hcells h1 hbase
  go_enter Try.func47, Try.ntmps47
  go_wp2_with (at_builtin; refine wpList_append_own _ rfl _ _ 24 rfl w.heap.size 3 i0 (.int .i64 0) 1 8 Try.underlying24 hi hz0 hz1 hz2 rfl (by decide) _ 0 [] rfl HB.out ad n c us rfl HL.out HC.out H1.out (by simp only [maxLen]; omega) (by omega) (by simp) ?_)
  intro v1 w1 hown hg hnil
  have hnn : ¬ v1 = .slice none 0 0 := hnil
  have H2 := Lib.hid (show w1.ownsRow w.heap.size 3 1 v1 n us by simpa using hown)
  have H3 := Lib.hid hnn
  have H4 := Lib.hid (((Below.refl w.heap.size w).alloc (Nat.le_refl _) _).grown hg (by simp) (fun k hk => by simp [Value.ownBlock] at hk; omega))
  clear hown hg hnil hnn HL HC H1 HB
  go_wp2
  exact HQ'.out _ _ ⟨_, rfl, H2.out, H3.out, H4.out⟩

theorem clone_any_PRecordapiPair (A : Option Addr) (n c : Nat) (us : List Value) (w : World) (hA : A = none → n = 0 ∧ c = 0) (hr : Row1 w A n us) (h1 : ∀ u ∈ us, u.oneCell' = true) (hl : n ≤ 1000000000000) :
    Calls Try.prog 75 #[.slice A n c] w fun e w' => ∃ A' c', e = .returned (.slice A' n c') ∧ w'.ownsRow w.heap.size 58 1 (.slice A' n c') n us ∧ (A' = none → n = 0 ∧ c' = 0) ∧ (A' = none ↔ A = none) ∧ Below w.heap.size w w' := by
  cases A with
  | none =>
    obtain ⟨rfl, rfl⟩ := hA rfl
    have hus : us = [] := List.eq_nil_of_length_eq_zero hr.1
    subst hus
    refine (clone_nil_PRecordapiPair w).mono ?_
    rintro e w' ⟨rfl, rfl⟩
    exact ⟨none, 0, rfl, World.ownsRow_nil _ _ _ _, fun _ => ⟨rfl, rfl⟩, Iff.rfl, Below.refl _ _⟩
  | some ad =>
    refine (clone_PRecordapiPair ad n c us w hr h1 hl).mono ?_
    rintro e w' ⟨v, rfl, ho, hn, hb⟩
    obtain ⟨b, c', rest, rfl, _, _, _⟩ := owns_blk ho hn
    exact ⟨_, c', rfl, ho, (fun e => by cases e), (by simp), hb⟩

theorem clone_any_PScxapiPair (A : Option Addr) (n c : Nat) (us : List Value) (w : World) (hA : A = none → n = 0 ∧ c = 0) (hr : Row1 w A n us) (h1 : ∀ u ∈ us, u.oneCell' = true) (hl : n ≤ 1000000000000) :
    Calls Try.prog 76 #[.slice A n c] w fun e w' => ∃ A' c', e = .returned (.slice A' n c') ∧ w'.ownsRow w.heap.size 71 1 (.slice A' n c') n us ∧ (A' = none → n = 0 ∧ c' = 0) ∧ (A' = none ↔ A = none) ∧ Below w.heap.size w w' := by
  cases A with
  | none =>
    obtain ⟨rfl, rfl⟩ := hA rfl
    have hus : us = [] := List.eq_nil_of_length_eq_zero hr.1
    subst hus
    refine (clone_nil_PScxapiPair w).mono ?_
    rintro e w' ⟨rfl, rfl⟩
    exact ⟨none, 0, rfl, World.ownsRow_nil _ _ _ _, fun _ => ⟨rfl, rfl⟩, Iff.rfl, Below.refl _ _⟩
  | some ad =>
    refine (clone_PScxapiPair ad n c us w hr h1 hl).mono ?_
    rintro e w' ⟨v, rfl, ho, hn, hb⟩
    obtain ⟨b, c', rest, rfl, _, _, _⟩ := owns_blk ho hn
    exact ⟨_, c', rfl, ho, (fun e => by cases e), (by simp), hb⟩

theorem clone_any_bool (A : Option Addr) (n c : Nat) (us : List Value) (w : World) (hA : A = none → n = 0 ∧ c = 0) (hr : Row1 w A n us) (h1 : ∀ u ∈ us, u.oneCell' = true) (hl : n ≤ 1000000000000) :
    Calls Try.prog 77 #[.slice A n c] w fun e w' => ∃ A' c', e = .returned (.slice A' n c') ∧ w'.ownsRow w.heap.size 4 1 (.slice A' n c') n us ∧ (A' = none → n = 0 ∧ c' = 0) ∧ (A' = none ↔ A = none) ∧ Below w.heap.size w w' := by
  cases A with
  | none =>
    obtain ⟨rfl, rfl⟩ := hA rfl
    have hus : us = [] := List.eq_nil_of_length_eq_zero hr.1
    subst hus
    refine (clone_nil_bool w).mono ?_
    rintro e w' ⟨rfl, rfl⟩
    exact ⟨none, 0, rfl, World.ownsRow_nil _ _ _ _, fun _ => ⟨rfl, rfl⟩, Iff.rfl, Below.refl _ _⟩
  | some ad =>
    refine (clone_bool ad n c us w hr h1 hl).mono ?_
    rintro e w' ⟨v, rfl, ho, hn, hb⟩
    obtain ⟨b, c', rest, rfl, _, _, _⟩ := owns_blk ho hn
    exact ⟨_, c', rfl, ho, (fun e => by cases e), (by simp), hb⟩

theorem clone_any_int (A : Option Addr) (n c : Nat) (us : List Value) (w : World) (hA : A = none → n = 0 ∧ c = 0) (hr : Row1 w A n us) (h1 : ∀ u ∈ us, u.oneCell' = true) (hl : n ≤ 1000000000000) :
    Calls Try.prog 47 #[.slice A n c] w fun e w' => ∃ A' c', e = .returned (.slice A' n c') ∧ w'.ownsRow w.heap.size 3 1 (.slice A' n c') n us ∧ (A' = none → n = 0 ∧ c' = 0) ∧ (A' = none ↔ A = none) ∧ Below w.heap.size w w' := by
  cases A with
  | none =>
    obtain ⟨rfl, rfl⟩ := hA rfl
    have hus : us = [] := List.eq_nil_of_length_eq_zero hr.1
    subst hus
    refine (clone_nil_int w).mono ?_
    rintro e w' ⟨rfl, rfl⟩
    exact ⟨none, 0, rfl, World.ownsRow_nil _ _ _ _, fun _ => ⟨rfl, rfl⟩, Iff.rfl, Below.refl _ _⟩
  | some ad =>
    refine (clone_int ad n c us w hr h1 hl).mono ?_
    rintro e w' ⟨v, rfl, ho, hn, hb⟩
    obtain ⟨b, c', rest, rfl, _, _, _⟩ := owns_blk ho hn
    exact ⟨_, c', rfl, ho, (fun e => by cases e), (by simp), hb⟩
end Go.Proofs.Yteeficpjggimcaa

/- record.New. Written by mk.py. -/
namespace Go.Proofs.Yteeficpjggimcaa
open Go.RowKit Go.Proofs.YteeficpjggimcaaW.PrintWords
set_option linter.unusedVariables false
set_option linter.unusedSimpArgs false

/-- The SCX-record that a new record has of its own: Aborted. -/
def firstO : ScxO := ⟨.slice none 0 0, .slice none 0 0, .slice none 0 0, 0, 0, none, none, 2, false⟩
/-- Half-way through the fields. -/
def NewInv (TR TC : Nat) (w : World) (fb b : Nat) (ps : List (Option Nat)) (D : List Value) (j : Nat) (wr : World) : Prop :=
  Below w.heap.size w wr ∧ b < wr.heap.size ∧ Blk wr fb TC ((ps.take j).map pv ++ List.replicate (ps.length - j) (.pointer none)) ∧ Blk wr b TR (D ++ [.slice (some ⟨fb, 0, none⟩) ps.length ps.length, .pointer none, .int .u32 0])
theorem NewInv.next {TR TC : Nat} {w wr w' : World} {fb b : Nat} {ps : List (Option Nat)} {D : List Value} {j : Nat} (h : NewInv TR TC w fb b ps D j wr) (hj : j < ps.length) (hfb : w.heap.size ≤ fb) (hne : TR ≠ TC)
    (hf : Fr wr w' (fun k => k = fb)) (hb : Blk w' fb TC (((ps.take j).map pv ++ List.replicate (ps.length - j) (Value.pointer none)).set j (pv (ps.getD j none)))) : NewInv TR TC w fb b ps D (j + 1) w' := by
  obtain ⟨h1, h2, h3, h4⟩ := h
  refine ⟨h1.trans (hf.below h1.size (fun k hk => by omega)), Nat.lt_of_lt_of_le h2 hf.size, ?_, hf.blk h4 (fun e => ?_)⟩
  · have he : ((ps.take j).map pv ++ List.replicate (ps.length - j) (Value.pointer none)).set j (pv (ps.getD j none)) = (ps.take (j + 1)).map pv ++ List.replicate (ps.length - (j + 1)) (.pointer none) := by
      rw [List.set_append_right _ _ (by simp; omega)]
      have e1 : ps.length - j = (ps.length - (j + 1)) + 1 := by omega
      have e2 : j - ((ps.take j).map pv).length = 0 := by simp; omega
      rw [e1, e2, List.replicate_succ, List.set_cons_zero, List.take_succ_eq_append_getElem hj, List.map_append, List.append_assoc]
      simp [List.getD_eq_getElem?_getD, List.getElem?_eq_getElem hj]
    rw [← he]; exact hb
  · subst e
    exact hne (h4.inj h3).1
theorem NewInv.start {TR TC : Nat} (w : World) (ps : List (Option Nat)) (D : List Value) : NewInv TR TC w w.heap.size (w.heap.size + 1) ps D 0
    ((w.alloc (.cells (nils ps.length) TC)).alloc (.cells (D ++ [Value.slice (some ⟨w.heap.size, 0, none⟩) ps.length ps.length, Value.pointer none, Value.int .u32 0]).toArray TR)) := by
  refine ⟨((Below.refl w.heap.size w).alloc (Nat.le_refl _) _).alloc (by simp) _, by simp, ?_, ?_⟩
  · have := (nils_blk w TC ps.length).alloc (.cells (D ++ [Value.slice (some ⟨w.heap.size, 0, none⟩) ps.length ps.length, Value.pointer none, Value.int .u32 0]).toArray TR)
    simpa using this
  · have := Blk.new (w.alloc (.cells (nils ps.length) TC)) TR (D ++ [Value.slice (some ⟨w.heap.size, 0, none⟩) ps.length ps.length, Value.pointer none, Value.int .u32 0])
    simpa using this
theorem NewInv.drew {TR TC : Nat} {w wr : World} {fb b : Nat} {ps : List (Option Nat)} {D : List Value} {j : Nat} (h : NewInv TR TC w fb b ps D j wr) : NewInv TR TC w fb b ps D j wr.drew := ⟨h.1.drew, h.2.1, h.2.2.1, h.2.2.2⟩
theorem NewInv.of {TR TC : Nat} {w w0 wr : World} {fb b : Nat} {ps : List (Option Nat)} {D : List Value} {j : Nat} (h0 : Below w.heap.size w w0) (h : NewInv TR TC w0 fb b ps D j wr) : NewInv TR TC w fb b ps D j wr :=
  ⟨h0.trans (h.1.mono h0.size), h.2⟩
/-- All of it: the new record, and its first SCX-record. -/
theorem NewInv.done {TR dl TC TX : Nat} {w wr w2 w3 : World} {R : Nat → Option RecO} {X : Nat → Option ScxO} {fb b : Nat} {ps : List (Option Nat)} {D : List Value} (hh : Rep TR dl TC TX w R X) (h : NewInv TR TC w fb b ps D ps.length wr)
    (hk : ∀ p ∈ ps, Ok R p) (hD : D.length = dl) (hb0 : w.heap.size ≤ b) (hfb0 : w.heap.size ≤ fb) (hrx : TR ≠ TX) (hcx : TC ≠ TX) (hrc : TR ≠ TC)
    {zs : Array Value} (hf2 : Fr (wr.alloc (.cells zs TX)) w2 (fun k => k = wr.heap.size)) (hx2 : Blk w2 wr.heap.size TX firstO.cells)
    (hf3 : Fr w2 w3 (fun k => k = b)) (hb3 : Blk w3 b TR (D ++ [.slice (some ⟨fb, 0, none⟩) ps.length ps.length, pv (some wr.heap.size), .int .u32 0])) :
    w.heap.size ≤ wr.heap.size ∧ Below w.heap.size w w3 ∧ Rep TR dl TC TX w3 (upd R b ⟨D, fb, ps, some wr.heap.size, false⟩) (upd X wr.heap.size firstO) := by
  obtain ⟨h1, h2, h3, h4⟩ := h
  have hbel2 : Below w.heap.size w w2 := (h1.alloc h1.size _).trans (hf2.below (Nat.le_trans h1.size (by simp)) (fun k hk => by have := h1.size; omega))
  have hbel3 : Below w.heap.size w w3 := hbel2.trans (hf3.below hbel2.size (fun k hk => by omega))
  refine ⟨h1.size, hbel3, hh.addRec (fb := fb) (o := ⟨D, fb, ps, some wr.heap.size, false⟩) hbel3 hb0 hfb0 hb3 hD ?_ (fun x hx => hk _ hx x rfl) rfl h1.size ?_⟩
  · have e1 : Blk wr fb TC (ps.map pv) := by simpa using h3
    have e2 : Blk w2 fb TC (ps.map pv) := hf2.blk (e1.alloc _) (fun e => by have := e1.lt; omega)
    exact hf3.blk e2 (fun e => by subst e; exact hrc (h4.inj e1).1)
  · exact hf3.blk hx2 (fun e => by omega)

theorem ninfo_apiPair : (Try.prog.info? 106).map (fun i => (i.zero, i.size, i.bytes)) = some (some (.agg #[.pointer none]), 1, 8) := by kernel_rfl
set_option maxHeartbeats 1000000 in
set_option maxRecDepth 100000 in
theorem new_apiPair (d v : Int) (A : Option Addr) (c : Nat) (ps : List (Option Nat)) (R : Nat → Option RecO) (X : Nat → Option ScxO) (w : World) (h : RepapiPair w R X) (hr : Row1 w A ps.length (ps.map pv)) (hk : ∀ p ∈ ps, Ok R p) (hn : ps.length ≤ 1000000) :
    Calls Try.prog 22 #[.agg #[.int .i64 d, .int .i64 v], .slice A ps.length c] w fun e w' => ∃ b fb xb, e = .returned (pv (some b)) ∧ w.heap.size ≤ b ∧ w.heap.size ≤ fb ∧ w.heap.size ≤ xb ∧ Below w.heap.size w w' ∧
      RepapiPair w' (upd R b ⟨[.int .i64 d, .int .i64 v], fb, ps, some xb, false⟩) (upd X xb firstO) := by
  have hmk := fun w => run_make_nils (P := Try.prog) Try.underlying70 ninfo_apiPair rfl ps.length (by omega) (by omega) w
  refine calls_hide fun Q HQ => ?_
  have HQ' := Lib.hid HQ
  have HK := Lib.hid hk
  have HR := Lib.hid hr
  have HH := Lib.hid h
  clear HQ hk hr h
  go_enter Try.func22, Try.ntmps22
  go_wp2
  go_region
  go_wp2
  have hst := ((NewInv.start (TR := 86) (TC := 106) (w.alloc (.cells ([.int .i64 d, .int .i64 v] : List Value).toArray 56)) ps [.int .i64 d, .int .i64 v]).of ((Below.refl w.heap.size w).alloc (Nat.le_refl _) _)).drew
  go_loopw [17] (fun k wr => ∃ j : Nat, j ≤ ps.length ∧ k = .int .i64 j ∧ NewInv 86 106 w (w.heap.size + 1) (w.heap.size + 2) ps [.int .i64 d, .int .i64 v] j wr) (fun k _ => ps.length - (intOf k).toNat)
  case atStart => first | exact ⟨0, Nat.zero_le _, rfl, hst⟩ | exact ⟨0, Nat.zero_le _, rfl, by simpa using hst⟩
  case round =>
    clear hst
    obtain ⟨j, hj, rfl, hI⟩ := hrel
    have HI := Lib.hid hI
    have hbel := hI.1
    have hsz := hI.2.1
    clear hI
    by_cases hlt : j < ps.length
    · have hx0 : (ps.map pv)[j]? = some (pv (ps.getD j none)) := by simp [List.getD_eq_getElem?_getD, List.getElem?_eq_getElem hlt]
      obtain ⟨ad, hA, hc0⟩ := HR.out.at_ hx0
      have hc : wr.cell? (ad.add j) = some (pv (ps.getD j none)) := pw_cell_below hbel hc0
      have hsl : wr.cell? ⟨(w.heap.size + 2), 2, none⟩ = some (.slice (some ⟨(w.heap.size + 1), 0, none⟩) ps.length ps.length) := by rw [HI.out.2.2.2.cell]; rfl
      have hp : PtrTo 86 5 wr (ps.getD j none) := (HH.out.below hbel).recPtr (HK.out _ (by simp [List.getD_eq_getElem?_getD, List.getElem?_eq_getElem hlt]))
      have hu : ((ps.take j).map pv ++ List.replicate (ps.length - j) (Value.pointer none))[j]? = some (.pointer none) := by
        rw [List.getElem?_append_right (by simp; omega), List.getElem?_replicate, if_pos (by simp; omega)]
      have HC := Lib.hid (cell_store_RecordapiPair 0 none [] (w.heap.size + 1) j 106 _ wr (GAt.nil _ _ _ _ _) (Nat.zero_le _) (by simp) HI.out.2.2.1 (by decide) (by decide) (ps.getD j none) _ hu hp)
      have HN := Lib.hid (fun w' hf hb => HI.out.next (w' := w') hlt (by omega) (by decide) hf hb)
      generalize ps.getD j none = p at *
      clear hbel hx0 hc0 hp hu HR HH HI HK
      subst hA
      go_wp2_with fail
      refine HC.out.mono ?_
      rintro e w1 ⟨rfl, H, hb⟩
      have HN1 := Lib.hid (HN.out w1 H.fr0 hb)
      clear H hb HN HC hc
      go_wp2
      go_roundw
      case rel => exact ⟨j + 1, by omega, by go_num, HN1.out⟩
      case measure => simp [intOf]; omega
    · obtain rfl : j = ps.length := by omega
      have HB := HI.out.2.2.2
      have HC := Lib.hid (num_store 0 none [] wr.heap.size 7 116 [.slice none 0 0, .slice none 0 0, .slice none 0 0, .int .i64 0, .int .i64 0, .pointer none, .pointer none, .int .i64 0, .int .u32 0] (wr.alloc (.cells #[.slice none 0 0, .slice none 0 0, .slice none 0 0, .int .i64 0, .int .i64 0, .pointer none, .pointer none, .int .i64 0, .int .u32 0] 116)) (GAt.nil _ _ _ _ _) (Nat.zero_le _) (by simp) (Blk.new wr _ _) (by decide) (by decide) 2 (by decide) (by decide) (.int .i64 0) rfl)
      have HB1 := Lib.hid HB
      have HR0 := Lib.hid hbel.size
      clear HB hbel
      go_wp2_with fail
      refine HC.out.mono ?_
      rintro e w2 ⟨rfl, H, hb⟩
      have hf2 := Lib.hid H.fr0
      have hx2 := Lib.hid (show Blk w2 wr.heap.size 116 firstO.cells from hb)
      have hr2 := Lib.hid (H.fr0.blk (HB1.out.alloc _) (fun e => by omega))
      have HC2 := Lib.hid (cell_store_ScxapiPair 0 none [] (w.heap.size + 2) 3 86 _ w2 (GAt.nil _ _ _ _ _) (Nat.zero_le _) (by simp) hr2.out (by decide) (by decide) (some wr.heap.size) (.pointer none) rfl (hx2.out.ptr))
      clear H hb HC HB1 hr2
      go_wp2_with fail
      refine HC2.out.mono ?_
      rintro e w3 ⟨rfl, H, hb⟩
      have HD := Lib.hid (HI.out.done HH.out HK.out rfl (by omega) (by omega) (by decide) (by decide) (by decide) hf2.out hx2.out H.fr0 hb)
      clear H hb HC2 hx2 hf2
      go_wp2
      exact HQ'.out _ _ ⟨_, _, _, rfl, by omega, by omega, HD.out.1, HD.out.2.1, HD.out.2.2⟩
end Go.Proofs.Yteeficpjggimcaa
