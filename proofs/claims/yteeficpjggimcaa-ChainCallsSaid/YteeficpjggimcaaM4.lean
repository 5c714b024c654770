/- Joined texts: NewScx ChainE ChainF ChainG ChainH Grow. -/
import Derived.Test.YteeficpjggimcaaM1
import Derived.Test.YteeficpjggimcaaM3
import Derived.Test.YteeficpjggimcaaWInvWords
import Derived.Lib.Hide
import Derived.ArgAppend
import Derived.Deep.Upon

/- record.NewScx. Written by mk.py. -/
namespace Go.Proofs.Yteeficpjggimcaa
open Go.RowKit Go.Proofs.YteeficpjggimcaaW.PrintWords
set_option linter.unusedVariables false
set_option linter.unusedSimpArgs false

set_option maxHeartbeats 1000000 in
theorem newscx_apiPair (A1 : Option Addr) (n1 c1 : Nat) (us1 : List Value) (A2 : Option Addr) (n2 c2 : Nat) (us2 : List Value) (A3 : Option Addr) (n3 c3 : Nat) (us3 : List Value) (at_ fld : Int) (old new : Option Nat)
    (R : Nat → Option RecO) (X : Nat → Option ScxO) (w : World) (h : RepapiPair w R X) (hr1 : Row1 w A1 n1 us1) (hr2 : Row1 w A2 n2 us2) (hr3 : Row1 w A3 n3 us3)
    (hA1 : A1 = none → n1 = 0 ∧ c1 = 0) (hA2 : A2 = none → n2 = 0 ∧ c2 = 0) (hA3 : A3 = none → n3 = 0 ∧ c3 = 0)
    (o1 : ∀ u ∈ us1, u.oneCell' = true) (o2 : ∀ u ∈ us2, u.oneCell' = true) (o3 : ∀ u ∈ us3, u.oneCell' = true) (l1 : n1 ≤ 1000000000000) (l2 : n2 ≤ 1000000000000) (l3 : n3 ≤ 1000000000000) :
    Calls Try.prog 66 #[.slice A1 n1 c1, .slice A2 n2 c2, .slice A3 n3 c3, .int .i64 at_, .int .i64 fld, pv old, pv new] w fun e w' => ∃ b v1 v2 v3, e = .returned (pv (some b)) ∧ w.heap.size ≤ b ∧ Below w.heap.size w w' ∧
      RepapiPair w' R (upd X b ⟨v1, v2, v3, at_, fld, old, new, 0, false⟩) ∧ w'.ownsRow w.heap.size 58 1 v1 n1 us1 ∧ w'.ownsRow w.heap.size 71 1 v2 n2 us2 ∧ w'.ownsRow w.heap.size 4 1 v3 n3 us3 := by
  refine calls_hide fun Q HQ => ?_
  have HQ' := Lib.hid HQ
  have HC1 := Lib.hid (clone_any_PRecordapiPair A1 n1 c1 us1 w hA1 hr1 o1 l1)
  have HC2 := Lib.hid (fun w hr2 => clone_any_PScxapiPair A2 n2 c2 us2 w hA2 hr2 o2 l2)
  have HC3 := Lib.hid (fun w hr3 => clone_any_bool A3 n3 c3 us3 w hA3 hr3 o3 l3)
  have HR2 := Lib.hid hr2
  have HR3 := Lib.hid hr3
  have HH := Lib.hid h
  clear HQ h hr1 hr2 hr3 hA1 hA2 hA3 o1 o2 o3 l1 l2 l3
  go_enter Try.func66, Try.ntmps66
  go_wp2_with fail
  refine HC1.out.mono ?_
  rintro e w1 ⟨A1', c1', rfl, q1, _, _, b1⟩
  have Q1 := Lib.hid q1
  have B1 := Lib.hid b1
  have D2 := Lib.hid (HC2.out w1 (HR2.out.below b1))
  clear q1 b1 HC1 HC2
  go_wp2_with fail
  refine D2.out.mono ?_
  rintro e w2 ⟨A2', c2', rfl, q2, _, _, b2⟩
  have Q2 := Lib.hid q2
  have B2 := Lib.hid (B1.out.trans (b2.mono B1.out.size))
  have B12 := Lib.hid b2
  have D3 := Lib.hid (HC3.out w2 ((HR3.out.below B1.out).below b2))
  clear q2 b2 HC3 D2
  go_wp2_with fail
  refine D3.out.mono ?_
  rintro e w3 ⟨A3', c3', rfl, q3, _, _, b3⟩
  have B3 := Lib.hid (B2.out.trans (b3.mono B2.out.size))
  have hk : ∀ (o : Obj) (k : Nat), k < w3.heap.size → (w3.alloc o).heap[k]? = w3.heap[k]? := fun o k hk => Below.heap_alloc _ _ _ hk
  have Q3 := Lib.hid (World.ownsRow.alloc (own_weaken q3 B2.out.size))
  have Q2' := Lib.hid (World.ownsRow.alloc (own_weaken (pw_own_below Q2.out b3) B1.out.size))
  have Q1' := Lib.hid (World.ownsRow.alloc (pw_own_below (pw_own_below Q1.out B12.out) b3))
  have HN := Lib.hid (Blk.new w3 116 (ScxO.cells ⟨.slice A1' n1 c1', .slice A2' n2 c2', .slice A3' n3 c3', at_, fld, old, new, 0, false⟩))
  have HB := Lib.hid (B3.out.alloc B3.out.size (.cells (ScxO.cells ⟨.slice A1' n1 c1', .slice A2' n2 c2', .slice A3' n3 c3', at_, fld, old, new, 0, false⟩).toArray 116))
  have HS := Lib.hid B3.out.size
  clear q3 b3 hk D3 Q1 Q2
  go_wp2
  exact HQ'.out _ _ ⟨_, _, _, _, rfl, HS.out, HB.out, HH.out.addScx HB.out HN.out, Q1'.out _, Q2'.out _, Q3.out _⟩
end Go.Proofs.Yteeficpjggimcaa

/- llx: want: the SCX-record of links. -/
namespace Go.Proofs.Yteeficpjggimcaa
open Go.RowKit Go.Proofs.YteeficpjggimcaaW.PrintWords
set_option linter.unusedVariables false
set_option linter.unusedSimpArgs false

abbrev TPXs : Nat := 108
theorem pinfo_pscx : (Try.prog.info? THXapiPair).map (fun i => (i.zero, i.size, i.bytes)) = some (some (.pointer none), 1, 8) := by kernel_rfl
theorem take_succ_map {α β : Type} (f : α → β) (l : List α) (j : Nat) (hj : j < l.length) : (l.map f).take (j + 1) = (l.map f).take j ++ [f l[j]] := by
  rw [List.take_succ_eq_append_getElem (by simpa using hj)]; simp
/-- A link: the record, its info, the row of its fields. -/
structure Lk where
  r : Nat
  x : Nat
  A : Option Addr
  n : Nat
  c : Nat
def Lk.cells (y : Lk) : List Value := [.pointer (some ⟨y.r, 0, none⟩), .pointer (some ⟨y.x, 0, none⟩), .slice y.A y.n y.c]
/-- A row of links in a block. -/
def LkAt (w : World) (la : Nat) (L : List Lk) : Prop := ∀ (j : Nat) y, L[j]? = some y → w.cell? ⟨la, j * 3, none⟩ = some (.pointer (some ⟨y.r, 0, none⟩)) ∧ w.cell? ⟨la, j * 3 + 1, none⟩ = some (.pointer (some ⟨y.x, 0, none⟩)) ∧ w.cell? ⟨la, j * 3 + 2, none⟩ = some (.slice y.A y.n y.c)
theorem LkAt.below {w w' : World} {la : Nat} {L : List Lk} (h : LkAt w la L) (hb : Below w.heap.size w w') : LkAt w' la L := fun j y hy => by
  obtain ⟨h0, h1, h2⟩ := h j y hy
  exact ⟨pw_cell_below hb h0, pw_cell_below hb h1, pw_cell_below hb h2⟩
/-- After j of the links. -/
structure WtInv (w : World) (L : List Lk) (j : Nat) (v i : Value) (wr : World) : Prop where
  bel : Below w.heap.size w wr
  ov : wr.ownsRow w.heap.size THRapiPair 1 v j ((L.map fun y => pv (some y.r)).take j)
  oi : wr.ownsRow w.heap.size THXapiPair 1 i j ((L.map fun y => pv (some y.x)).take j)
set_option maxHeartbeats 4000000 in
set_option maxRecDepth 100000 in
theorem chain_want (B : Nat) (w : World) (R : Nat → Option RecO) (X : Nat → Option ScxO) (bs : List Nat) (l : List (Int × Int)) (h : Chn B w R X bs l) (la n cl : Nat) (L : List Lk) (hL : LkAt w la L) (hll : L.length ≤ 100) (Af : Option Addr) (cf : Nat) (ff : List Bool) (hf : Row1 w Af ff.length (ff.map Value.bool)) (hfn : Af = none → ff.length = 0 ∧ cf = 0) (hfl : ff.length ≤ 100)
    (r0 x0 a0 n0 c0 : Nat) (L' : List Lk) (e0 : L = ⟨r0, x0, some ⟨a0, 0, none⟩, n0, c0⟩ :: L') (hn0 : 0 < n0) (old : Option Nat) (ho : w.cell? ⟨a0, 0, none⟩ = some (pv old)) (p : Option Nat) :
    Calls Try.prog 53 #[.slice (some ⟨la, 0, none⟩) L.length cl, .slice Af ff.length cf, .int .i64 0, .int .i64 0, pv p] w fun e w' => ∃ s v1 v2 v3, e = .returned (.pointer (some ⟨s, 0, none⟩)) ∧ w.heap.size ≤ s ∧ Below w.heap.size w w' ∧
      RepapiPair w' R (upd X s ⟨v1, v2, v3, 0, 0, old, p, 0, false⟩) ∧ w'.ownsRow w.heap.size THRapiPair 1 v1 L.length (L.map fun y => pv (some y.r)) ∧ w'.ownsRow w.heap.size THXapiPair 1 v2 L.length (L.map fun y => pv (some y.x)) ∧ w'.ownsRow w.heap.size 4 1 v3 ff.length (ff.map Value.bool) := by
  refine calls_hide fun Q HQ => ?_
  have HQ' := Lib.hid HQ
  have HC := Lib.hid h
  have HL := Lib.hid hL
  have HF := Lib.hid hf
  have HFN := Lib.hid hfn
  have HE0 := Lib.hid e0
  have HO := Lib.hid ho
  clear HQ h hL hf hfn e0 ho
  go_enter Try.func53, Try.ntmps53
  go_wp2
  go_loopw [11, 12, 17] (fun v i k wr => ∃ j : Nat, j ≤ L.length ∧ k = .int .i64 j ∧ WtInv w L j v i wr) (fun _ _ k _ => L.length - (intOf k).toNat)
  case atStart => exact ⟨0, Nat.zero_le _, rfl, Below.refl _ _, World.ownsRow_nil _ _ _ _, World.ownsRow_nil _ _ _ _⟩
  case round =>
    obtain ⟨j, hj, rfl, hI⟩ := hrel
    have HI := Lib.hid hI
    clear hI
    by_cases hlt : j < L.length
    · have hget := List.getElem?_eq_getElem hlt
      obtain ⟨h0, h1, h2⟩ := (HL.out.below HI.out.bel) j _ hget
      have HTr := Lib.hid (take_succ_map (fun y : Lk => pv (some y.r)) L j hlt)
      have HTx := Lib.hid (take_succ_map (fun y : Lk => pv (some y.x)) L j hlt)
      generalize L[j] = y at *
      obtain ⟨r, x, A, ny, cy⟩ := y
      simp only at h0 h1 h2
      clear hget
      have hbw := (Below.refl wr.heap.size wr).alloc (Nat.le_refl _) (.cells #[.pointer (some ⟨r, 0, none⟩), .pointer (some ⟨x, 0, none⟩), .slice A ny cy] TLK)
      have HN := Lib.hid (Blk.new wr TLK [.pointer (some ⟨r, 0, none⟩), .pointer (some ⟨x, 0, none⟩), .slice A ny cy])
      have n0' := HN.out.cell 0
      simp only [List.getElem?_cons_zero] at n0'
      have HV0 := Lib.hid (owns_fr HI.out.ov (Fr.of_below0 (S := fun _ => False) hbw) (fun _ _ => id))
      have HX0 := Lib.hid (owns_fr HI.out.oi (Fr.of_below0 (S := fun _ => False) hbw) (fun _ _ => id))
      have HB0 := Lib.hid (HI.out.bel.alloc HI.out.bel.size (.cells #[.pointer (some ⟨r, 0, none⟩), .pointer (some ⟨x, 0, none⟩), .slice A ny cy] TLK))
      clear hbw
      go_wp2_with (at_builtin; refine print_append_cells w.heap.size rfl _ _ TPRs THRapiPair (.pointer none) 1 8 rfl Try.underlying93 pinfo_prec rfl (by decide) (by decide) u11 j _ [.pointer (some ⟨r, 0, none⟩)] rfl (by rw [World.size_alloc]; rfl) rfl (by simp [Value.oneCell']) HV0.out HB0.out HB0.out.size (by omega) ?_)
      intro a1 w6 hown1 hb1 hg1 hat1
      have hS : ∀ k, some k = u11.ownBlock → ∃ T ys, Blk (wr.alloc (.cells #[.pointer (some ⟨r, 0, none⟩), .pointer (some ⟨x, 0, none⟩), .slice A ny cy] TLK)) k T ys ∧ T = THRapiPair := fun k hk => by
        obtain ⟨ys, hy⟩ := owns_typed HV0.out k hk.symm
        exact ⟨_, ys, hy, rfl⟩
      have HN6 := Lib.hid ((Fr.of_grown hg1).blk HN.out (fun e => by
        obtain ⟨T, ys, hy, e2⟩ := hS _ e
        exact absurd ((hy.inj HN.out).1.symm.trans e2) (by decide)))
      have HX6 := Lib.hid (owns_types HX0.out (Fr.of_grown hg1) (fun k hk => by
        obtain ⟨T, ys, hy, e2⟩ := hS k hk
        exact ⟨T, ys, hy, by rw [e2]; decide⟩))
      have HV6 := Lib.hid hown1
      have HB6 := Lib.hid hb1
      have n1' := HN6.out.cell 1
      simp only [List.getElem?_cons_zero, List.getElem?_cons_succ] at n1'
      clear hown1 hb1 hg1 hat1 hS n0' h0 h1 h2
      go_wp2_with (at_builtin; refine print_append_cells w.heap.size rfl _ _ TPXs THXapiPair (.pointer none) 1 8 rfl Try.underlying108 pinfo_pscx rfl (by decide) (by decide) u12 j _ [.pointer (some ⟨x, 0, none⟩)] rfl rfl rfl (by simp [Value.oneCell']) HX6.out HB6.out HB6.out.size (by omega) ?_)
      intro a2 w8 hown2 hb2 hg2 hat2
      have HI2 := Lib.hid (show WtInv w L (j + 1) a1 a2 w8 from ⟨hb2, by
        rw [HTr.out]
        exact owns_types HV6.out (Fr.of_grown hg2) (fun k hk => by
          obtain ⟨ys, hy⟩ := owns_typed HX6.out k hk.symm
          exact ⟨_, ys, hy, by decide⟩), by rw [HTx.out]; exact hown2⟩)
      clear hown2 hb2 hg2 hat2 HV6 HX6 HB6 HN6 HV0 HX0 HB0 HN HTr HTx n1'
      go_wp2
      go_roundw
      case rel => exact ⟨j + 1, by omega, by go_num, HI2.out⟩
      case measure => simp [intOf]; omega
    · have hje : j = L.length := by omega
      subst hje
      obtain ⟨A1, c1, e1, q1, _⟩ := owns_slice HI.out.ov
      obtain ⟨A2, c2, e2, q2, _⟩ := owns_slice HI.out.oi
      have hA1 : A1 = none → L.length = 0 ∧ c1 = 0 := fun e => by
        have hz : L.length ≠ 0 := by rw [HE0.out]; simp
        obtain ⟨a, _, _, hv, _⟩ := owns_blk HI.out.ov (by rw [e1, e]; intro h; injection h with _ h _; exact hz h)
        rw [e1, e] at hv; simp at hv
      have hA2 : A2 = none → L.length = 0 ∧ c2 = 0 := fun e => by
        have hz : L.length ≠ 0 := by rw [HE0.out]; simp
        obtain ⟨a, _, _, hv, _⟩ := owns_blk HI.out.oi (by rw [e2, e]; intro h; injection h with _ h _; exact hz h)
        rw [e2, e] at hv; simp at hv
      have HNS := Lib.hid (newscx_apiPair A1 L.length c1 _ A2 L.length c2 _ Af ff.length cf _ 0 0 old p R X wr (HC.out.below HI.out.bel).rep q1 q2 (HF.out.below HI.out.bel) hA1 hA2 HFN.out
        (fun u hu => by obtain ⟨y, _, rfl⟩ := List.mem_map.1 (List.mem_of_mem_take hu); rfl) (fun u hu => by obtain ⟨y, _, rfl⟩ := List.mem_map.1 (List.mem_of_mem_take hu); rfl) (fun u hu => by obtain ⟨y, _, rfl⟩ := List.mem_map.1 hu; rfl) (by omega) (by omega) (by omega))
      have HBL := Lib.hid HI.out.bel
      subst e1 e2
      have hl0 : 0 < L.length := by rw [HE0.out]; simp
      obtain ⟨_, _, h2⟩ := (HL.out.below HI.out.bel) 0 _ (by rw [HE0.out]; rfl)
      have h3 := pw_cell_below HI.out.bel HO.out
      simp only at h2
      rw [show 0 * 3 + 2 = 2 from rfl] at h2
      clear q1 q2 hA1 hA2 HI
      go_wp2_with fail
      refine HNS.out.mono ?_
      rintro e w9 ⟨s, v1, v2, v3, rfl, hs, hb, hr, o1, o2, o3⟩
      rw [List.take_of_length_le (by simp)] at o1 o2
      have HFIN := Lib.hid (HQ'.out _ w9 ⟨s, v1, v2, v3, rfl, Nat.le_trans HBL.out.size hs, HBL.out.trans (hb.mono HBL.out.size), hr, Go.Proofs.YteeficpjggimcaaW.PrintWords.own_weaken o1 HBL.out.size, Go.Proofs.YteeficpjggimcaaW.PrintWords.own_weaken o2 HBL.out.size, Go.Proofs.YteeficpjggimcaaW.PrintWords.own_weaken o3 HBL.out.size⟩)
      clear hs hb hr o1 o2 o3 HNS
      go_wp2
      exact HFIN.out
end Go.Proofs.Yteeficpjggimcaa

/- llx: SCX where nobody is in the way. -/
namespace Go.Proofs.Yteeficpjggimcaa
open Go.RowKit Go.Proofs.YteeficpjggimcaaW.PrintWords
set_option linter.unusedVariables false
set_option linter.unusedSimpArgs false

/-- The infos of vs are s; the marks of L; the first field of r. -/
def frzF (s : Nat) (vs : List Nat) (R : Nat → Option RecO) : Nat → Option RecO := fun k => (R k).map fun o => if k ∈ vs then { o with info := some s } else o
def mrkF (L : List (Nat × Bool)) (R : Nat → Option RecO) : Nat → Option RecO := fun k => (R k).map fun o => { o with mark := o.mark || mkOf L k }
def swF (r : Nat) (new : Option Nat) (R : Nat → Option RecO) : Nat → Option RecO := fun k => (R k).map fun o => if k = r then { o with fields := o.fields.set 0 new } else o
theorem frz_all (s : Nat) : ∀ (vs : List Nat) (is : List (Option Nat)) (R : Nat → Option RecO), vs.Nodup → is.length = vs.length → (∀ r ∈ vs, (R r).isSome) → (∀ (j r : Nat) i, vs[j]? = some r → is[j]? = some i → (rg R r).info = i) →
    frzR s R (vs.zip is) = (true, frzF s vs R, List.replicate vs.length 5)
  | [], _, R, _, _, _, _ => by
    simp only [List.zip_nil_left, frzR, List.length_nil, List.replicate_zero]
    congr 2
    funext k
    cases h : R k <;> simp [frzF, h]
  | r :: vs, [], R, _, hl, _, _ => by simp at hl
  | r :: vs, i :: is, R, hnd, hl, hs, hi => by
    obtain ⟨hr, hnd'⟩ := List.nodup_cons.1 hnd
    have h1 : (rg R r).info = i := hi 0 r i rfl rfl
    simp only [List.zip_cons_cons, frzR, if_pos h1]
    rw [frz_all s vs is (upd R r { rg R r with info := some s }) hnd' (by simpa using hl) (fun k hk => upd_isSome _ (hs k (List.mem_cons_of_mem _ hk))) (fun j q i' hq hi' => by
      have := hi (j + 1) q i' hq hi'
      have hne : ¬ q = r := fun e => by subst e; exact hr (List.mem_of_getElem? hq)
      rw [rg_upd, if_neg hne]
      exact this)]
    simp only [List.length_cons, List.replicate_succ]
    congr 2
    funext k
    unfold frzF
    by_cases e : k = r
    · subst e
      rw [upd_self, rg_some (hs k (List.mem_cons_self ..))]
      simp [hr, rg]
    · rw [upd_ne _ _ e]
      simp [e]
theorem mrk_all : ∀ (L : List (Nat × Bool)) (R : Nat → Option RecO), (∀ x ∈ L, (R x.1).isSome) → mrkR R L = (mrkF L R, List.replicate (L.countP fun x => x.2) 2)
  | [], R, _ => by
    simp only [mrkR]
    congr 1
    funext k
    cases h : R k <;> simp [mrkF, mkOf, h]
  | (r, f) :: L, R, h => by
    cases f with
    | false =>
      simp only [mrkR, Bool.false_eq_true, if_false]
      rw [mrk_all L R (fun x hx => h x (List.mem_cons_of_mem _ hx))]
      simp only [List.countP_cons, Bool.false_eq_true, if_false, Nat.add_zero]
      congr 1
      funext k
      cases e : R k <;> simp [mrkF, mkOf, e]
    | true =>
      simp only [mrkR, if_true]
      rw [mrk_all L _ (fun x hx => upd_isSome _ (h x (List.mem_cons_of_mem _ hx)))]
      simp only [List.countP_cons, if_true, List.replicate_succ]
      congr 1
      funext k
      unfold mrkF
      by_cases e : k = r
      · subst e
        rw [upd_self, rg_some (h _ (List.mem_cons_self ..))]
        simp [mkOf, rg]
      · rw [upd_ne _ _ e]
        have : (r == k) = false := by simpa using fun h => e h.symm
        cases e2 : R k <;> simp [mkOf, this]
theorem help_ok (R : Nat → Option RecO) (X : Nat → Option ScxO) (s : Nat) (o : ScxO) (r0 : Nat) (vs : List Nat) (is : List (Option Nat)) (ff : List Bool) (q : RecO) (n : Option Nat) (hnd : (r0 :: vs).Nodup) (hl : is.length = (r0 :: vs).length) (hR : ∀ r ∈ r0 :: vs, (R r).isSome)
    (hi : ∀ (j r : Nat) i, (r0 :: vs)[j]? = some r → is[j]? = some i → (rg R r).info = i) (ha : o.at_ = 0) (hf : o.fld = 0) (hq : R r0 = some q) (hfl : q.fields = [n]) (ho : o.old = n) :
    helpR R X s o (r0 :: vs) is ff = (true, List.replicate (vs.length + 1) 5 ++ 2 :: (List.replicate (((r0 :: vs).zip ff).countP fun x => x.2) 2 ++ [5, 2]), swF r0 o.new (mrkF ((r0 :: vs).zip ff) (frzF s (r0 :: vs) R)), upd X s { o with frozen := true, state := 1 }) := by
  have hsome : ∀ x ∈ (r0 :: vs).zip ff, (frzF s (r0 :: vs) R x.1).isSome := fun x hx => by
    have := hR _ (List.of_mem_zip hx).1
    unfold frzF
    simpa using this
  rw [helpR_ok (frz_all s (r0 :: vs) is R hnd hl hR hi) (mrk_all _ _ hsome)]
  simp only [List.length_cons, ha, hf]
  congr 3
  show swgR _ r0 0 o.old o.new = _
  funext k
  unfold swgR swF
  by_cases e : k = r0
  · subst e
    rw [upd_self]
    have h1 : mrkF ((k :: vs).zip ff) (frzF s (k :: vs) R) k = some { { q with info := some s } with mark := q.mark || mkOf ((k :: vs).zip ff) k } := by
      simp [mrkF, frzF, hq]
    rw [rg_of h1, h1]
    simp [hfl, ho]
  · rw [upd_ne _ _ e]
    cases e2 : mrkF ((r0 :: vs).zip ff) (frzF s (r0 :: vs) R) k <;> simp [e]
end Go.Proofs.Yteeficpjggimcaa

/- llx: SCX by a gate, where nobody is in the way. -/
namespace Go.Proofs.Yteeficpjggimcaa
open Go.RowKit Go.Proofs.YteeficpjggimcaaW.PrintWords
set_option linter.unusedVariables false
set_option linter.unusedSimpArgs false

/-- What Help wants of its SCX-record. -/
theorem helpAtC {w : World} {B' s : Nat} {g : Option Nat} {ks : List Int} {R : Nat → Option RecO} {X : Nat → Option ScxO} {o : ScxO} {base r0 : Nat} {L' : List Nat} {is : List (Option Nat)} {ff : List Bool} {q : RecO} {n : Option Nat} (hr : RepapiPair w R X) (hx : X s = some o)
    (o1 : w.ownsRow base THRapiPair 1 o.sv (L'.length + 1) ((r0 :: L').map fun b => pv (some b))) (o2 : w.ownsRow base THXapiPair 1 o.si (L'.length + 1) (is.map pv)) (o3 : w.ownsRow base 4 1 o.sf (L'.length + 1) (ff.map Value.bool)) (hg : GAtI w B' g ks) (hB : B' ≤ w.heap.size)
    (hR : ∀ r ∈ r0 :: L', (R r).isSome) (hI : ∀ i ∈ is, Ok X i) (ha : o.at_ = 0) (hf : o.fld = 0) (hq : R r0 = some q) (hfl : q.fields = [n]) (hO : Ok R o.old) (hN : Ok R o.new) :
    ∃ bv bi bf cv ci cf rv ri rf, HAtapiPair B' g s q.fb (r0 :: L') is ff w bv bi bf cv ci cf rv ri rf w ks R X o := by
  have hne : ∀ {u : Value} {e n : Nat} {us : List Value}, w.ownsRow base e 1 u n us → 0 < n → ¬ u = .slice none 0 0 := fun ho hn e => by
    rcases ho.2 with ⟨_, h0⟩ | ⟨g, cap, cur, hv, _⟩
    · omega
    · rw [e] at hv; simp at hv
  have l2 : is.length = L'.length + 1 := by simpa using o2.1
  have l3 : ff.length = L'.length + 1 := by simpa using o3.1
  obtain ⟨bv, cv, rv, ev, _, _, hbv⟩ := owns_blk o1 (hne o1 (by omega))
  obtain ⟨bi, ci, ri, ei, _, _, hbi⟩ := owns_blk o2 (hne o2 (by omega))
  obtain ⟨bf, cf, rf, ef, _, _, hbf⟩ := owns_blk o3 (hne o3 (by omega))
  refine ⟨bv, bi, bf, cv, ci, cf, rv, ri, rf, ⟨hB, hg, Step.refl hg _, hr, ⟨by simpa using ev, by simpa using ei, by simpa using ef, hbv, hbi, hbf, by simpa using l2, by simpa using l3⟩, hx, hR, hI, hO, hN, by rw [ha]; exact Int.le_refl _, by rw [ha]; simp <;> omega, by rw [hf]; exact Int.le_refl _, ?_, ?_⟩⟩
  · rw [ha, hf]
    show (0 : Int) < ((rg R r0).fields.length : Int)
    rw [rg_of hq, hfl]; simp
  · rw [ha]
    show (rg R r0).fb = q.fb
    rw [rg_of hq]
set_option maxHeartbeats 4000000 in
set_option maxRecDepth 100000 in
theorem Chn.scx {B B' : Nat} {w : World} {g : Option Nat} {ks : List Int} {R : Nat → Option RecO} {X : Nat → Option ScxO} {bs : List Nat} {l : List (Int × Int)} (h : Chn B w R X bs l) (hg : GAtI w B' g ks) (hB : B' ≤ w.heap.size) (hl : ks.length ≤ 800000000)
    {la cl : Nat} {y0 : Lk} {L : List Lk} (hL : LkAt w la (y0 :: L)) (hll : L.length ≤ 50) {Af : Option Addr} {cf : Nat} {ff : List Bool} (hf : Row1 w Af ff.length (ff.map Value.bool)) (hfn : Af = none → ff.length = 0 ∧ cf = 0) (hfl : ff.length = L.length + 1)
    {a0 : Nat} {n p : Option Nat} (e0 : y0.A = some ⟨a0, 0, none⟩) (hn0 : 0 < y0.n) (ho : w.cell? ⟨a0, 0, none⟩ = some (pv n)) {q : RecO} (hq : R y0.r = some q) (hqf : q.fields = [n]) (hN : Ok R n) (hP : Ok R p)
    (hnd : (y0.r :: L.map Lk.r).Nodup) (hR : ∀ y ∈ y0 :: L, ∃ o, R y.r = some o ∧ o.info = some y.x) :
    Calls Try.prog 42 #[gvI g, .slice (some ⟨la, 0, none⟩) (L.length + 1) cl, .slice Af ff.length cf, .int .i64 0, .int .i64 0, pv p] w fun e w' => e = .returned (.bool true) ∧
      ∃ s v1 v2 v3, w.heap.size ≤ s ∧ StepI B' g w w' (ks ++ (List.replicate (L.length + 1) 5 ++ 2 :: (List.replicate (((y0.r :: L.map Lk.r).zip ff).countP fun x => x.2) 2 ++ [5, 2]))) (fun k => k ∈ y0.r :: L.map Lk.r ∨ k = q.fb) ∧
        RepapiPair w' (swF y0.r p (mrkF ((y0.r :: L.map Lk.r).zip ff) (frzF s (y0.r :: L.map Lk.r) R))) (upd X s ⟨v1, v2, v3, 0, 0, n, p, 1, true⟩) := by
  refine calls_hide fun Q HQ => ?_
  have HQ' := Lib.hid HQ
  have HW := Lib.hid (chain_want B w R X bs l h la 0 cl (y0 :: L) hL (by simp; omega) Af cf ff hf hfn (by omega) y0.r y0.x a0 y0.n y0.c L (by rw [← e0]) hn0 n ho p)
  have HG := Lib.hid hg
  have HR := Lib.hid h.rep
  have HRI := Lib.hid hR
  have HND := Lib.hid hnd
  have HFL := Lib.hid hfl
  have HQQ := Lib.hid hq
  have HQF := Lib.hid hqf
  have HOK := Lib.hid (And.intro hN hP)
  clear HQ h hg hL hf hfn hfl e0 hn0 ho hq hqf hN hP hnd hR
  go_enter Try.func42, Try.ntmps42
  go_wp2_with fail
  refine HW.out.mono ?_
  rintro e w1 ⟨s, v1, v2, v3, rfl, hs, hb, hr, o1, o2, o3⟩
  have hgs := HG.out.below0 hb (fun _ => False)
  have hx : (upd X s ⟨v1, v2, v3, 0, 0, n, p, 0, false⟩) s = some ⟨v1, v2, v3, 0, 0, n, p, 0, false⟩ := upd_self _ _ _
  have hRs : ∀ r ∈ y0.r :: L.map Lk.r, (R r).isSome := fun r hr' => by
    have : r ∈ (y0 :: L).map Lk.r := hr'
    obtain ⟨y, hy, rfl⟩ := List.mem_map.1 this
    obtain ⟨o, ho, _⟩ := HRI.out y hy
    rw [ho]; rfl
  have hIs : ∀ i ∈ (y0 :: L).map fun y => some y.x, Ok (upd X s ⟨v1, v2, v3, 0, 0, n, p, 0, false⟩) i := fun i hi => by
    obtain ⟨y, hy, rfl⟩ := List.mem_map.1 hi
    obtain ⟨o, ho, hox⟩ := HRI.out y hy
    exact fun b e => by cases e; exact hr.ki _ _ ho _ hox
  have hH := helpAtC (L' := L.map Lk.r) (is := (y0 :: L).map fun y => some y.x) (ff := ff) hr hx (by simpa [Function.comp_def] using o1) (by simpa [Function.comp_def] using o2) (by rw [HFL.out] at o3; simpa using o3) hgs.gate (Nat.le_trans hB hb.size) hRs hIs rfl rfl HQQ.out HQF.out HOK.out.1 HOK.out.2
  obtain ⟨bv, bi, bf, cv, ci, cf', rv, ri, rf, hH⟩ := hH
  have hok := help_ok R (upd X s ⟨v1, v2, v3, 0, 0, n, p, 0, false⟩) s ⟨v1, v2, v3, 0, 0, n, p, 0, false⟩ y0.r (L.map Lk.r) ((y0 :: L).map fun y => some y.x) ff q n HND.out (by simp) hRs (fun j r i h1 h2 => by
    have h1' : ((y0 :: L).map Lk.r)[j]? = some r := h1
    simp only [List.getElem?_map, Option.map_eq_some_iff] at h1' h2
    obtain ⟨y, hy, rfl⟩ := h1'
    obtain ⟨y', hy', rfl⟩ := h2
    rw [hy] at hy'
    cases hy'
    obtain ⟨o, ho, hox⟩ := HRI.out y (List.mem_of_getElem? hy)
    rw [rg_of ho, hox]) rfl rfl HQQ.out HQF.out rfl
  have HHP := Lib.hid (help_apiPair _ _ _ _ _ _ _ _ _ _ _ _ _ _ _ _ _ _ _ _ _ hH (by omega) (by simp; omega))
  have HKO := Lib.hid hok
  have HS := Lib.hid hgs
  have HSS := Lib.hid hs
  have HLR := Lib.hid (show (L.map Lk.r).length = L.length by simp)
  clear hb hr o1 o2 o3 hgs hx hRs hIs hH hok HW hs
  go_wp2_with fail
  refine HHP.out.mono ?_
  rintro e w2 ⟨he, hst, hrep⟩
  rw [HKO.out] at he hst hrep
  subst he
  simp only [HLR.out, upd_upd] at hst hrep
  have HFIN := Lib.hid (HQ'.out _ w2 ⟨rfl, s, v1, v2, v3, HSS.out, (HS.out.mono (S' := fun k => k ∈ y0.r :: L.map Lk.r ∨ k = q.fb) (fun _ _ hk => hk.elim)).trans hst (fun i hi hk => by
    have := HSS.out
    rcases hk with hk | hk | hk
    · exact .inl hk
    · exact .inr hk
    · omega), hrep⟩)
  clear hst hrep HHP HKO
  go_wp2
  exact HFIN.out
end Go.Proofs.Yteeficpjggimcaa

/- chain: what an SCX leaves is a list again. No walk. -/
namespace Go.Proofs.Yteeficpjggimcaa
open Go.RowKit Go.Proofs.YteeficpjggimcaaW.PrintWords
set_option linter.unusedVariables false
set_option linter.unusedSimpArgs false

section
variable {B : Nat} {w w' : World} {R : Nat → Option RecO} {X : Nat → Option ScxO} {bs : List Nat} {l l' : List (Int × Int)}
/-- A new record stands beside the list. -/
theorem Chn.addRec (h : Chn B w R X bs l) {b fb xb : Nat} {D : List Value} {ps : List (Option Nat)} {q : ScxO} (hb : w.heap.size ≤ b) (hfb : w.heap.size ≤ fb) (hxb : w.heap.size ≤ xb) (hB : B ≤ w.heap.size) (hr : RepapiPair w' (upd R b ⟨D, fb, ps, some xb, false⟩) (upd X xb q)) :
    Chn B w' (upd R b ⟨D, fb, ps, some xb, false⟩) (upd X xb q) bs l := by
  refine ⟨hr, h.len, h.nd, fun i c hc => ?_, fun k hk => ?_⟩
  · obtain ⟨f, x, o, h1, h2, h3⟩ := h.at_ i c hc
    refine ⟨f, x, o, ?_, ?_, h3⟩
    · rw [upd_ne _ _ (fun e => by have := (h.rep.recs _ _ h1).1.lt; omega)]; exact h1
    · rw [upd_ne _ _ (fun e => by have := (h.rep.scx _ _ h2).lt; omega)]; exact h2
  · rcases hk with hk | ⟨c, o, ho, e⟩ | hk
    · unfold upd at hk; split at hk
      · omega
      · exact h.lo k (.inl hk)
    · rcases upd_cases ho with ⟨_, rfl⟩ | ⟨_, ho⟩
      · simp only at e; omega
      · exact h.lo k (.inr (.inl ⟨c, o, ho, e⟩))
    · unfold upd at hk; split at hk
      · omega
      · exact h.lo k (.inr (.inr hk))
theorem Chn.fresh (h : Chn B w R X bs l) {b : Nat} (hb : w.heap.size ≤ b) : b ∉ bs := fun hm => by
  obtain ⟨i, hi⟩ := List.getElem?_of_mem hm
  obtain ⟨f, x, o, h1, _⟩ := h.at_ i b hi
  have := (h.rep.recs _ _ h1).1.lt
  omega
theorem mkOf_not {L : List (Nat × Bool)} {k : Nat} (h : k ∉ L.map (·.1)) : mkOf L k = false := by
  unfold mkOf
  rw [List.any_eq_false]
  intro x hx
  have : x.1 ≠ k := fun e => h (e ▸ List.mem_map_of_mem hx)
  simp [this]
theorem mkOf_zip {r0 : Nat} {mid : List Nat} {ff : List Bool} {k : Nat} (hk : k ∉ mid) : mkOf ((r0 :: mid).zip (false :: ff)) k = false := by
  have : k ∉ (mid.zip ff).map (·.1) := fun h => by
    obtain ⟨x, hx, rfl⟩ := List.mem_map.1 h
    exact hk (List.of_mem_zip hx).1
  have := mkOf_not this
  unfold mkOf at this ⊢
  simpa using this
theorem scx_other {s r0 : Nat} {mid : List Nat} {ff : List Bool} {p : Option Nat} {k : Nat} (h0 : k ≠ r0) (hk : k ∉ mid) : swF r0 p (mrkF ((r0 :: mid).zip (false :: ff)) (frzF s (r0 :: mid) R)) k = R k := by
  simp only [swF, mrkF, frzF, mkOf_zip hk, if_neg h0, if_neg (show ¬ k ∈ r0 :: mid from fun h => (List.mem_cons.1 h).elim h0 hk)]
  cases R k <;> simp
theorem scx_own {s r0 : Nat} {mid : List Nat} {ff : List Bool} {p : Option Nat} {q : RecO} (hk : r0 ∉ mid) (hq : R r0 = some q) : swF r0 p (mrkF ((r0 :: mid).zip (false :: ff)) (frzF s (r0 :: mid) R)) r0 = some { q with info := some s, fields := q.fields.set 0 p } := by
  simp only [swF, mrkF, frzF, mkOf_zip hk, if_pos (List.mem_cons_self ..), hq, Option.map_some, if_true, Bool.or_false]
theorem scx_some {s r0 : Nat} {vs : List Nat} {L : List (Nat × Bool)} {p : Option Nat} {k : Nat} {o : RecO} (h : swF r0 p (mrkF L (frzF s vs R)) k = some o) : ∃ o', R k = some o' ∧ o'.fb = o.fb := by
  simp only [swF, mrkF, frzF, Option.map_map, Option.map_eq_some_iff] at h
  obtain ⟨o', h1, rfl⟩ := h
  refine ⟨o', h1, ?_⟩
  simp only [Function.comp]
  split <;> split <;> rfl
/-- Behind an SCX at r0: the records mid have gone, b stands in their place. -/
theorem Chn.splice {pre mid post : List Nat} {r0 b s : Nat} {ff : List Bool} {A M Z : List (Int × Int)} {a d : Int × Int} (h : Chn B w R X (pre ++ r0 :: (mid ++ post)) l) (hb : b ∉ pre ++ r0 :: (mid ++ post)) (hne : 0 < mid.length + post.length) {fb xb : Nat} {o2 q : ScxO}
    (hnew : R b = some ⟨[.int .i64 d.1, .int .i64 d.2], fb, post.head?.toList.map some, some xb, false⟩) (hx : X xb = some o2) (h2 : o2.state = 1 ∨ o2.state = 2) (hs : X s = none) (hsB : B ≤ s) (hq : q.state = 1)
    (hp : psOf l = A ++ a :: (M ++ Z)) (hA : A.length = pre.length) (hM : M.length = mid.length) (hp' : psOf l' = A ++ a :: d :: Z)
    (hr : RepapiPair w' (swF r0 (some b) (mrkF ((r0 :: mid).zip (false :: ff)) (frzF s (r0 :: mid) R))) (upd X s q)) :
    Chn B w' (swF r0 (some b) (mrkF ((r0 :: mid).zip (false :: ff)) (frzF s (r0 :: mid) R))) (upd X s q) (pre ++ r0 :: b :: post) l' := by
  have hnd := h.nd
  rw [List.nodup_append] at hnd
  obtain ⟨nd1, nd2, nd3⟩ := hnd
  obtain ⟨nd4, nd5⟩ := List.nodup_cons.1 nd2
  rw [List.nodup_append] at nd5
  obtain ⟨nd6, nd7, nd8⟩ := nd5
  simp only [List.mem_append, List.mem_cons, not_or] at hb nd4
  obtain ⟨b1, b2, b3, b4⟩ := hb
  have hXs : ∀ {x : Nat} {o : ScxO}, X x = some o → upd X s q x = some o := fun {x o} hx => by
    rw [upd_ne _ _ (fun e => by rw [e, hs] at hx; cases hx)]; exact hx
  have hlen := h.len
  have hpl : (psOf l).length = l.length + 2 := by simp [psOf]
  have hpl' : (psOf l').length = l'.length + 2 := by simp [psOf]
  rw [hp] at hpl
  rw [hp'] at hpl'
  simp only [List.length_append, List.length_cons] at hlen hpl hpl'
  refine ⟨hr, by simp only [List.length_append, List.length_cons]; omega, ?_, fun i c hc => ?_, fun k hk => ?_⟩
  · rw [List.nodup_append]
    refine ⟨nd1, List.nodup_cons.2 ⟨fun hm => ?_, List.nodup_cons.2 ⟨b4, nd7⟩⟩, fun x hx y hy e => ?_⟩
    · rcases List.mem_cons.1 hm with e | hm
      · exact b2 e.symm
      · exact nd4.2 hm
    · subst e
      rcases List.mem_cons.1 hy with rfl | hy
      · exact nd3 _ hx _ (List.mem_cons_self ..) rfl
      · rcases List.mem_cons.1 hy with rfl | hy
        · exact b1 hx
        · exact nd3 _ hx _ (List.mem_cons_of_mem _ (List.mem_append_right _ hy)) rfl
  · rw [hp']
    rcases Nat.lt_trichotomy i pre.length with hi | rfl | hi
    · -- ahead
      rw [List.getElem?_append_left hi] at hc
      have hcp := List.mem_of_getElem? hc
      obtain ⟨f, x, o, h1, h3, h4⟩ := h.at_ i c (by rw [List.getElem?_append_left hi]; exact hc)
      refine ⟨f, x, o, ?_, hXs h3, h4⟩
      rw [scx_other (fun e => nd3 _ hcp _ (e ▸ List.mem_cons_self ..) rfl) (fun hm => nd3 _ hcp _ (List.mem_cons_of_mem _ (List.mem_append_left _ hm)) rfl), h1, hp]
      congr 2
      · simp [List.getD_eq_getElem?_getD, List.getElem?_append_left (show i < A.length by omega)]
      · by_cases h5 : i + 1 < pre.length
        · rw [List.getElem?_append_left h5, List.getElem?_append_left h5]
        · have : i + 1 = pre.length := by omega
          rw [this]; simp
    · -- r0
      rw [List.getElem?_append_right (Nat.le_refl _)] at hc
      simp at hc
      subst hc
      obtain ⟨f, x, o, h1, h3, h4⟩ := h.at_ pre.length r0 (by simp)
      refine ⟨f, s, q, ?_, upd_self _ _ _, .inl hq⟩
      rw [scx_own nd4.1 h1, hp]
      simp only [Option.some.injEq, RecO.mk.injEq, true_and, and_true]
      refine ⟨by simp [List.getD_eq_getElem?_getD, ← hA], ?_⟩
      have h6 : (pre ++ r0 :: (mid ++ post))[pre.length + 1]? = (mid ++ post)[0]? := by
        rw [List.getElem?_append_right (by omega)]; simp
      have h7 : (pre ++ r0 :: b :: post)[pre.length + 1]? = some b := by
        rw [List.getElem?_append_right (by omega)]; simp
      rw [h6, h7]
      cases hmp : mid ++ post with
      | nil =>
        exfalso
        have h8 : mid.length + post.length = 0 := by rw [← List.length_append, hmp]; rfl
        omega
      | cons y ys => simp
    · rcases Nat.lt_or_ge i (pre.length + 2) with h5 | h5
      · -- the new one
        obtain rfl : i = pre.length + 1 := by omega
        have h7 : (pre ++ r0 :: b :: post)[pre.length + 1]? = some b := by
          rw [List.getElem?_append_right (by omega)]; simp
        rw [h7] at hc
        cases hc
        refine ⟨fb, xb, o2, ?_, hXs hx, h2⟩
        rw [scx_other (by exact b2) b3, hnew]
        have h8 : (pre ++ r0 :: b :: post)[pre.length + 1 + 1]? = post.head? := by
          rw [List.getElem?_append_right (by omega), show pre.length + 1 + 1 - pre.length = 2 by omega, List.head?_eq_getElem?]; rfl
        rw [h8]
        have h9 : (A ++ a :: d :: Z).getD (pre.length + 1) (0, 0) = d := by
          rw [List.getD_eq_getElem?_getD, List.getElem?_append_right (by omega), show pre.length + 1 - A.length = 1 by omega]; rfl
        rw [h9]
      · -- behind
        obtain ⟨t, rfl⟩ : ∃ t, i = pre.length + 2 + t := ⟨i - (pre.length + 2), by omega⟩
        have g1 : ∀ u, (pre ++ r0 :: b :: post)[pre.length + 2 + u]? = post[u]? := fun u => by
          rw [List.getElem?_append_right (by omega), show pre.length + 2 + u - pre.length = u + 2 by omega]; rfl
        have g2 : ∀ u, (pre ++ r0 :: (mid ++ post))[pre.length + 1 + mid.length + u]? = post[u]? := fun u => by
          rw [List.getElem?_append_right (by omega), show pre.length + 1 + mid.length + u - pre.length = (mid.length + u) + 1 by omega, List.getElem?_cons_succ, List.getElem?_append_right (by omega), show mid.length + u - mid.length = u by omega]
        have g3 : (A ++ a :: d :: Z).getD (pre.length + 2 + t) (0, 0) = Z.getD t (0, 0) := by
          rw [List.getD_eq_getElem?_getD, List.getElem?_append_right (by omega), show pre.length + 2 + t - A.length = t + 2 by omega]; rfl
        have g4 : (A ++ a :: (M ++ Z)).getD (pre.length + 1 + mid.length + t) (0, 0) = Z.getD t (0, 0) := by
          rw [List.getD_eq_getElem?_getD, List.getElem?_append_right (by omega), show pre.length + 1 + mid.length + t - A.length = (mid.length + t) + 1 by omega, List.getElem?_cons_succ, List.getElem?_append_right (by omega), show mid.length + t - M.length = t by omega]; rfl
        rw [g1] at hc
        have hcp := List.mem_of_getElem? hc
        obtain ⟨f, x, o, h1, h3, h4⟩ := h.at_ (pre.length + 1 + mid.length + t) c (by rw [g2]; exact hc)
        refine ⟨f, x, o, ?_, hXs h3, h4⟩
        rw [scx_other (fun e => by subst e; exact nd4.2 hcp) (fun hm => nd8 _ hm _ hcp rfl), h1, hp, g3, g4, show pre.length + 2 + t + 1 = pre.length + 2 + (t + 1) by omega, g1, show pre.length + 1 + mid.length + t + 1 = pre.length + 1 + mid.length + (t + 1) by omega, g2]
  · rcases hk with hk | ⟨c, o, ho, e⟩ | hk
    · obtain ⟨o, ho⟩ := Option.isSome_iff_exists.1 hk
      obtain ⟨o', ho', _⟩ := scx_some ho
      exact h.lo k (.inl (by rw [ho']; rfl))
    · obtain ⟨o', ho', e'⟩ := scx_some ho
      exact h.lo k (.inr (.inl ⟨c, o', ho', e'.trans e⟩))
    · unfold upd at hk; split at hk
      · omega
      · exact h.lo k (.inr (.inr hk))
end
end Go.Proofs.Yteeficpjggimcaa

/-
  A region that draws its order, of which all operations but a last one make memory alone: each is shown once. No program in sight.
-/
namespace Go.Proofs.Yteeficpjggimcaa
open Go.RowKit Go.Proofs.YteeficpjggimcaaW.PrintWords Go.Proofs.YteeficpjggimcaaW.PrintLast
set_option linter.unusedVariables false
set_option linter.unusedSimpArgs false

/-- All that each operation waits for, as bits. -/
def bitsOf (T : List (List Nat × List Nat)) : List Nat := T.foldl (fun acc r => acc ++ [r.1.foldl (fun m n => m ||| (1 <<< n) ||| acc.getD n 0) 0]) []
def setV (V : Nat → Value) (i : Nat) (v : Value) : Nat → Value := fun j => if j = i then v else V j
theorem setV_self (V : Nat → Value) (i : Nat) (v : Value) : setV V i v i = v := by simp [setV]
theorem setV_ne (V : Nat → Value) {i j : Nat} (v : Value) (h : j ≠ i) : setV V i v j = V j := by simp [setV, h]
/-- The growing operations with where their values go. -/
def vrows (D : List (Nat × Tmp)) (V : Nat → Value) : List (Nat × Tmp × Value) := D.map fun e => (e.1, e.2, V e.1)
theorem vrows_set {D : List (Nat × Tmp)} (hD : (D.map (·.1)).Nodup) (V : Nat → Value) {k i : Nat} {t : Tmp} (hk : D[k]? = some (i, t)) (v : Value) : (vrows D V).set k (i, t, v) = vrows D (setV V i v) := by
  apply List.ext_getElem?
  intro j
  by_cases hj : j = k
  · subst hj
    have hl := (List.getElem?_eq_some_iff.1 hk).1
    rw [List.getElem?_set_self (by simpa [vrows] using hl)]
    simp [vrows, hk, setV_self]
  · rw [List.getElem?_set_ne (Ne.symm hj)]
    simp only [vrows, List.getElem?_map]
    cases he : D[j]? with
    | none => rfl
    | some e =>
      have : e.1 ≠ i := fun h => hj (by
        have h1 : (D.map (·.1))[j]? = some i := by simp [he, h]
        have h2 : (D.map (·.1))[k]? = some i := by simp [hk]
        obtain ⟨l1, e1⟩ := List.getElem?_eq_some_iff.1 h1
        obtain ⟨l2, e2⟩ := List.getElem?_eq_some_iff.1 h2
        exact (List.getElem_inj hD).1 (e1.trans e2.symm))
      simp [setV_ne _ _ this]

/-- The block of what an owner holds. -/
def ob (ow : Nat → Bool) (V : Nat → Value) (i : Nat) : Option Nat := if ow i = true then (V i).ownBlock else none
section
variable {P : Program} {ops : Array Oper} {Q : Exit → Act → World → Prop} {md : Region.Mode} {T : Bool × List (List Nat × List Nat)} {ow : Nat → Bool}
/-- What holds while they grow. -/
structure GrowI (ow : Nat → Bool) (a0 : Act) (w0 : World) (B : List Nat) (D : List (Nat × Tmp)) (ch : Nat → Nat) (Pr : Nat → (Nat → Value) → World → Prop) (b : Nat → Bool) (a : Act) (w : World) (V : Nat → Value) : Prop where
  frame : a = putSel a0 b (vrows D V)
  below : Below w0.heap.size w0 w
  pr : ∀ e ∈ D, b e.1 = true → Pr e.1 V w
  lt : ∀ e ∈ D, b e.1 = true → ∀ k, ob ow V e.1 = some k → w0.heap.size ≤ k ∧ k < w.heap.size
  apart : ∀ e ∈ D, ∀ e' ∈ D, b e.1 = true → b e'.1 = true → ch e.1 ≠ ch e'.1 → ∀ k, ob ow V e.1 = some k → ob ow V e'.1 ≠ some k
/-- One operation's step. -/
def GrowStep (ow : Nat → Bool) (P : Program) (ops : Array Oper) (Q : Exit → Act → World → Prop) (a0 : Act) (w0 : World) (B : List Nat) (D : List (Nat × Tmp)) (ch : Nat → Nat) (Pr : Nat → (Nat → Value) → World → Prop) (e : Nat × Tmp) : Prop :=
  ∀ V a w, (∀ e' ∈ D, (B.getD e.1 0).testBit e'.1 = true → a.tmps[e'.2]? = some (V e'.1) ∧ Pr e'.1 V w ∧ ∀ k, ob ow V e'.1 = some k → w0.heap.size ≤ k ∧ k < w.heap.size) → (∀ s, (∀ e' ∈ D, e'.2 ≠ s) → a.tmps[s]? = a0.tmps[s]?) → Below w0.heap.size w0 w →
    ∃ oi, ops[e.1]? = some oi ∧ oi.dst = some e.2 ∧ ∀ K : Act → World → Prop,
      Shut (∀ v w', Below w.heap.size w w' → Pr e.1 (setV V e.1 v) w' → (ow e.1 = true → ∀ k, v.ownBlock = some k → k < w'.heap.size ∧ (w.heap.size ≤ k ∨ ∃ e' ∈ D, (B.getD e.1 0).testBit e'.1 = true ∧ ch e'.1 = ch e.1 ∧ ob ow V e'.1 = some k)) → K (a.put (some e.2) v) w') →
      if Region.wanted oi (yielded ops a.tmps) = true then Oper.wp P oi a w K Q else K (a.put oi.dst undef) w

theorem putSel_at {b : Nat → Bool} {D : List (Nat × Tmp)} (hD2 : (D.map (·.2)).Nodup) {V : Nat → Value} {a0 : Act} {i : Nat} {t : Tmp} (he : (i, t) ∈ D) (hb : b i = true) (ht : t < a0.tmps.size) : (putSel a0 b (vrows D V)).tmps[t]? = some (V i) := by
  obtain ⟨k, hk⟩ := List.getElem?_of_mem he
  refine putSel_on (e := (i, t, V i)) k (by simp [vrows, hk]) ?_ hb (by rw [Nat.ble_eq]; exact ht)
  rw [List.all_eq_true]
  intro x hx
  obtain ⟨j, hj⟩ := List.getElem?_of_mem hx
  rw [List.getElem?_drop] at hj
  simp only [vrows, List.getElem?_map] at hj
  obtain ⟨y, hy, rfl⟩ := Option.map_eq_some_iff.1 hj
  simp only [Bool.not_eq_true', beq_eq_false_iff_ne]
  intro h
  have h1 : (D.map (·.2))[k + 1 + j]? = some t := by simp [hy, h]
  have h2 : (D.map (·.2))[k]? = some t := by simp [hk]
  obtain ⟨l1, e1⟩ := List.getElem?_eq_some_iff.1 h1
  obtain ⟨l2, e2⟩ := List.getElem?_eq_some_iff.1 h2
  have := (List.getElem_inj hD2).1 (e1.trans e2.symm)
  omega
theorem putSel_out {b : Nat → Bool} {D : List (Nat × Tmp)} {V : Nat → Value} {a0 : Act} {s : Tmp} (h : ∀ e ∈ D, e.2 ≠ s) : (putSel a0 b (vrows D V)).tmps[s]? = a0.tmps[s]? := by
  refine putSel_off ?_
  rw [List.all_eq_true]
  intro x hx
  obtain ⟨e, he, rfl⟩ := List.mem_map.1 hx
  simpa using h e he
theorem grow_step {a0 : Act} {w0 : World} {B : List Nat} {D : List (Nat × Tmp)} {ch : Nat → Nat} {Pr : Nat → (Nat → Value) → World → Prop} {b : Nat → Bool} {a : Act} {w : World} {V : Nat → Value}
    (hD : (D.map (·.1)).Nodup) (hD2 : (D.map (·.2)).Nodup) (hsz : ∀ e ∈ D, e.2 < a0.tmps.size)
    (dep : ∀ e ∈ D, ∀ V V' w, (∀ j, (j = e.1 ∨ (B.getD e.1 0).testBit j = true) → V j = V' j) → Pr e.1 V w → Pr e.1 V' w) (stab : ∀ e ∈ D, ∀ V w w', Pr e.1 V w → Below w.heap.size w w' → Pr e.1 V w')
    {e : Nat × Tmp} (he : e ∈ D) (hs : GrowStep ow P ops Q a0 w0 B D ch Pr e) (h : GrowI ow a0 w0 B D ch Pr b a w V) (hb : b e.1 = false)
    (hon : ∀ e' ∈ D, (B.getD e.1 0).testBit e'.1 = true → b e'.1 = true) (hoff : ∀ e' ∈ D, (B.getD e'.1 0).testBit e.1 = true → b e'.1 = false) :
    ∃ oi, ops[e.1]? = some oi ∧ ∀ K : Act → World → Prop, Shut (∀ a' w', (∃ V', GrowI ow a0 w0 B D ch Pr (up b e.1) a' w' V') → K a' w') → if Region.wanted oi (yielded ops a.tmps) = true then Oper.wp P oi a w K Q else K (a.put oi.dst undef) w := by
  obtain ⟨oi, h1, h2, h3⟩ := hs V a w (fun e' he' hbit => by
      have hb' := hon e' he' hbit
      exact ⟨by rw [h.frame]; exact putSel_at hD2 he' hb' (hsz e' he'), h.pr e' he' hb', h.lt e' he' hb'⟩) (fun s hs => by rw [h.frame]; exact putSel_out hs) h.below
  refine ⟨oi, h1, fun K hK => h3 K fun v w' hbl hpr hown => hK _ _ ⟨setV V e.1 v, ?_⟩⟩
  have hw0 : w0.heap.size ≤ w.heap.size := h.below.size
  have hne : ∀ e' ∈ D, b e'.1 = true → e'.1 ≠ e.1 := fun e' _ hb' h => by rw [h, hb] at hb'; cases hb'
  have hup : ∀ e' ∈ D, up b e.1 e'.1 = true → e' = e ∨ (e'.1 ≠ e.1 ∧ b e'.1 = true) := fun e' he' hu => by
    by_cases hh : e'.1 = e.1
    · left
      obtain ⟨k, hk⟩ := List.getElem?_of_mem he
      obtain ⟨k', hk'⟩ := List.getElem?_of_mem he'
      have g1 : (D.map (·.1))[k]? = some e.1 := by simp [hk]
      have g2 : (D.map (·.1))[k']? = some e.1 := by simp [hk', hh]
      obtain ⟨l1, e1⟩ := List.getElem?_eq_some_iff.1 g1
      obtain ⟨l2, e2⟩ := List.getElem?_eq_some_iff.1 g2
      have := (List.getElem_inj hD).1 (e1.trans e2.symm)
      subst this
      rw [hk] at hk'
      exact (Option.some.inj hk').symm
    · exact .inr ⟨hh, by rwa [up_ne hh] at hu⟩
  have hself : ∀ k, ob ow (setV V e.1 v) e.1 = some k → ow e.1 = true ∧ v.ownBlock = some k := fun k hk => by
    unfold ob at hk
    rw [setV_self] at hk
    split at hk
    · exact ⟨‹_›, hk⟩
    · cases hk
  have hother : ∀ j, j ≠ e.1 → ob ow (setV V e.1 v) j = ob ow V j := fun j hj => by unfold ob; rw [setV_ne V v hj]
  have hownlt : ow e.1 = true → ∀ k, v.ownBlock = some k → w0.heap.size ≤ k ∧ k < w'.heap.size := fun ho k hk => by
    obtain ⟨hlt, hx⟩ := hown ho k hk
    refine ⟨?_, hlt⟩
    rcases hx with hx | ⟨e', he', hbit, _, hk'⟩
    · omega
    · exact (h.lt e' he' (hon e' he' hbit) k hk').1
  have hap : ow e.1 = true → ∀ e' ∈ D, b e'.1 = true → ch e.1 ≠ ch e'.1 → ∀ k, v.ownBlock = some k → ob ow V e'.1 ≠ some k := fun ho e' he' hb' hch k hk hk' => by
    rcases (hown ho k hk).2 with hx | ⟨e2, he2, hbit, hc2, hk2⟩
    · have := (h.lt e' he' hb' k hk').2; omega
    · exact h.apart e2 he2 e' he' (hon e2 he2 hbit) hb' (by rw [hc2]; exact hch) k hk2 hk'
  refine ⟨?_, h.below.trans (hbl.mono hw0), fun e' he' hu => ?_, fun e' he' hu k hk => ?_, fun e' he' e2 he2 hu hu2 hch k hk => ?_⟩
  · rw [h.frame]
    obtain ⟨k, hk⟩ := List.getElem?_of_mem he
    refine putSel_upk (v0 := V e.1) k hb (by simp [vrows, hk]) (vrows_set hD V hk v) ?_
    rw [List.all_eq_true]
    intro x hx
    have key : ∀ j, j ≠ k → ∀ y, D[j]? = some y → (!(y.1 == e.1) && !(y.2 == e.2)) = true := fun j hj y hy => by
      simp only [Bool.and_eq_true, Bool.not_eq_true', beq_eq_false_iff_ne]
      constructor
      · intro hh
        have g1 : (D.map (·.1))[k]? = some e.1 := by simp [hk]
        have g2 : (D.map (·.1))[j]? = some e.1 := by simp [hy, hh]
        obtain ⟨l1, e1⟩ := List.getElem?_eq_some_iff.1 g1
        obtain ⟨l2, e2⟩ := List.getElem?_eq_some_iff.1 g2
        exact hj ((List.getElem_inj hD).1 (e1.trans e2.symm)).symm
      · intro hh
        have g1 : (D.map (·.2))[k]? = some e.2 := by simp [hk]
        have g2 : (D.map (·.2))[j]? = some e.2 := by simp [hy, hh]
        obtain ⟨l1, e1⟩ := List.getElem?_eq_some_iff.1 g1
        obtain ⟨l2, e2⟩ := List.getElem?_eq_some_iff.1 g2
        exact hj ((List.getElem_inj hD2).1 (e1.trans e2.symm)).symm
    rcases List.mem_append.1 hx with hx | hx
    · obtain ⟨j, hj⟩ := List.getElem?_of_mem hx
      rw [List.getElem?_take] at hj
      split at hj
      · simp only [vrows, List.getElem?_map] at hj
        obtain ⟨y, hy, rfl⟩ := Option.map_eq_some_iff.1 hj
        exact key j (by omega) y hy
      · cases hj
    · obtain ⟨j, hj⟩ := List.getElem?_of_mem hx
      rw [List.getElem?_drop] at hj
      simp only [vrows, List.getElem?_map] at hj
      obtain ⟨y, hy, rfl⟩ := Option.map_eq_some_iff.1 hj
      exact key _ (by omega) y hy
  · rcases hup e' he' hu with rfl | ⟨hh, hb'⟩
    · exact hpr
    · refine dep e' he' V _ w' (fun j hj => (setV_ne V v (fun hji => ?_)).symm) (stab e' he' V w w' (h.pr e' he' hb') hbl)
      rcases hj with hj | hj
      · exact hh (hj.symm.trans hji)
      · rw [hji] at hj
        have := hoff e' he' hj
        rw [hb'] at this; cases this
  · rcases hup e' he' hu with rfl | ⟨hh, hb'⟩
    · exact hownlt (hself k hk).1 k (hself k hk).2
    · rw [hother _ hh] at hk
      have := h.lt e' he' hb' k hk
      have := hbl.size
      omega
  · rcases hup e' he' hu with rfl | ⟨hh, hb'⟩
    · rcases hup e2 he2 hu2 with rfl | ⟨hh2, hb2⟩
      · exact absurd rfl hch
      · rw [hother _ hh2]
        exact hap (hself k hk).1 e2 he2 hb2 hch k (hself k hk).2
    · rw [hother _ hh] at hk
      rcases hup e2 he2 hu2 with rfl | ⟨hh2, hb2⟩
      · intro hk2
        exact hap (hself k hk2).1 e' he' hb' (Ne.symm hch) k (hself k hk2).2 hk
      · rw [hother _ hh2]
        exact h.apart e' he' e2 he2 hb' hb2 hch k hk

/-- The operations behind them, one behind the other. -/
def seqWp (P : Program) (ops : Array Oper) (Q : Exit → Act → World → Prop) : List Nat → Act → World → Prop
  | [], a, w => Q .normal a w
  | i :: r, a, w => ∃ oi, ops[i]? = some oi ∧ if Region.wanted oi (yielded ops a.tmps) = true then Oper.wp P oi a w (seqWp P ops Q r) Q else seqWp P ops Q r (a.put oi.dst undef) w
theorem seq_value {i : Nat} {r : List Nat} {oi : Oper} {N : Tmp} {a : Act} {w w1 : World} (v : Value) (ho : ops[i]? = some oi) (hg : oi.guard = none) (hN : oi.dst = some N) (hrun : (execOp a.eval oi).run P w = .ok (.value v) w1)
    (h : seqWp P ops Q r (a.put (some N) v) w1) : seqWp P ops Q (i :: r) a w := by
  refine ⟨oi, ho, ?_⟩
  rw [if_pos (by simp [Region.wanted, hg])]
  unfold Oper.wp
  rw [hrun]
  show seqWp P ops Q r (a.put oi.dst v) w1
  rw [hN]
  exact h
theorem seq_skip {i : Nat} {r : List Nat} {oi : Oper} {a : Act} {w w1 : World} (ho : ops[i]? = some oi) (hg : oi.guard = none) (hN : oi.dst = none) (hrun : (execOp a.eval oi).run P w = .ok .skip w1)
    (h : seqWp P ops Q r a w1) : seqWp P ops Q (i :: r) a w := by
  refine ⟨oi, ho, ?_⟩
  rw [if_pos (by simp [Region.wanted, hg])]
  unfold Oper.wp
  rw [hrun]
  show seqWp P ops Q r (a.put oi.dst undef) w1
  rw [hN]
  exact h
theorem seq_nil {a : Act} {w : World} (h : wpList P #[] Q [] a w) : seqWp P ops Q [] a w := h
/-- Each waits for those ahead of it. -/
def pairB (B : List Nat) : List Nat → Bool
  | [] => true
  | i :: r => (r.all fun j => (B.getD j 0).testBit i) && pairB B r
theorem pairB_mem {B : List Nat} : ∀ {l pre rest : List Nat} {i j : Nat}, pairB B l = true → l = pre ++ i :: rest → j ∈ rest → (B.getD j 0).testBit i = true
  | [], pre, rest, i, j, _, h, _ => by simp at h
  | x :: l, [], rest, i, j, hp, h, hj => by
    simp only [List.nil_append, List.cons.injEq] at h
    obtain ⟨rfl, rfl⟩ := h
    simp only [pairB, Bool.and_eq_true, List.all_eq_true] at hp
    exact hp.1 j hj
  | x :: l, y :: pre, rest, i, j, hp, h, hj => by
    simp only [List.cons_append, List.cons.injEq] at h
    simp only [pairB, Bool.and_eq_true] at hp
    exact pairB_mem hp.2 h.2 hj
/-- The whole: D's operations grow, 'tail' are those behind them all, one behind the other. -/
theorem grow_region {l : Array Bool} {fuel : Nat} {a0 : Act} {w0 : World} {B : List Nat} (D : List (Nat × Tmp)) (tail : List Nat) (ow : Nat → Bool) (ch : Nat → Nat) (Pr : Nat → (Nat → Value) → World → Prop) (hT : rtab md ops = T) (hB : bitsOf T.2 = B) (hw : waitsOk T.2 B = true) (hk : baseOk T.2 (D.map (·.1) ++ tail) = true)
    (hl : (lof T.2.length (D.map (·.1) ++ tail) (fun _ => false) == l.toList && (D.map (·.1) ++ tail).length == fuel) = true)
    (hD2 : decide (D.map (·.2)).Nodup = true) (hsz : (D.all fun e => decide (e.2 < a0.tmps.size)) = true) (hlast : (tail.all fun t => D.all fun e => (B.getD t 0).testBit e.1) = true) (hpair : (pairB B tail && !tail.isEmpty) = true)
    (dep : ∀ e ∈ D, ∀ V V' w, (∀ j, (j = e.1 ∨ (B.getD e.1 0).testBit j = true) → V j = V' j) → Pr e.1 V w → Pr e.1 V' w) (stab : ∀ e ∈ D, ∀ V w w', Pr e.1 V w → Below w.heap.size w w' → Pr e.1 V w')
    (hs : ∀ e ∈ D, GrowStep ow P ops Q a0 w0 B D ch Pr e)
    (hfin : ∀ V a w, a = putSel a0 (fun _ => true) (vrows D V) → Below w0.heap.size w0 w → (∀ e ∈ D, Pr e.1 V w) → (∀ e ∈ D, ∀ e' ∈ D, ch e.1 ≠ ch e'.1 → ∀ k, ob ow V e.1 = some k → ob ow V e'.1 ≠ some k) → (∀ e ∈ D, ∀ k, ob ow V e.1 = some k → w0.heap.size ≤ k ∧ k < w.heap.size) →
      seqWp P ops Q tail a w) :
    wpAnyLast P md ops Q (fun _ => True) [] fuel l a0 w0 := by
  have hnd := baseOk_nodup hk
  rw [List.nodup_append] at hnd
  have hD := hnd.1
  rw [Bool.and_eq_true] at hpair
  have hne : tail ≠ [] := by
    intro h
    rw [h] at hpair
    simp at hpair
  have hnl : ∀ e ∈ D, ∀ t ∈ tail, e.1 ≠ t := fun e he t ht h => hnd.2.2 e.1 (List.mem_map.2 ⟨e, he, rfl⟩) t ht h
  have hD2' := of_decide_eq_true hD2
  have hsz' : ∀ e ∈ D, e.2 < a0.tmps.size := fun e he => by simpa using List.all_eq_true.1 hsz e he
  have hlast' : ∀ t ∈ tail, ∀ e ∈ D, (B.getD t 0).testBit e.1 = true := fun t ht e he => List.all_eq_true.1 (List.all_eq_true.1 hlast t ht) e he
  have hO : ∀ e ∈ D, (D.map (·.1) ++ tail).contains e.1 = true := fun e he => by
    rw [List.contains_iff_mem]
    exact List.mem_append_left _ (List.mem_map.2 ⟨e, he, rfl⟩)
  have hOl : ∀ t ∈ tail, (D.map (·.1) ++ tail).contains t = true := fun t ht => by
    rw [List.contains_iff_mem]
    exact List.mem_append_right _ ht
  refine inv_ (B := B) (D.map (·.1) ++ tail) (fun b a w => ∃ pre rest, tail = pre ++ rest ∧ (∀ i ∈ pre, b i = true) ∧ (∀ i ∈ rest, b i = false) ∧ (pre = [] → ∃ V, GrowI ow a0 w0 B D ch Pr b a w V) ∧ (pre ≠ [] → seqWp P ops Q rest a w)) hT hw hk hl ?_ ?_ ?_
  · refine ⟨[], tail, rfl, fun _ h => absurd h (by simp), fun _ _ => rfl, fun _ => ⟨fun _ => undef, ?_, Below.refl _ _, fun _ _ h => absurd h (by simp), fun _ _ h => absurd h (by simp), fun _ _ _ _ h => absurd h (by simp)⟩, fun h => absurd rfl h⟩
    have : ∀ (L : List (Nat × Tmp × Value)) (a : Act), putSel a (fun _ => false) L = a := fun L => by
      induction L with
      | nil => intro a; rfl
      | cons x L ih => intro a; simp [putSel, ih]
    rw [this]
  · intro i hi b a w hI hb hon hoff
    obtain ⟨pre, rest, htail, hpre, hrest, hg, hq⟩ := hI
    rcases List.mem_append.1 hi with hi | hi
    · obtain ⟨e, he, rfl⟩ := List.mem_map.1 hi
      have hp0 : pre = [] := by
        cases pre with
        | nil => rfl
        | cons x pre =>
          have hx : x ∈ tail := by rw [htail]; simp
          have h1 := hpre x (by simp)
          rw [hoff x (by rw [hOl x hx, hlast' x hx e he]; rfl)] at h1
          cases h1
      obtain ⟨V, hV⟩ := hg hp0
      obtain ⟨oi, h1, h2⟩ := grow_step hD hD2' hsz' dep stab he (hs e he) hV hb (fun e' he' hbit => hon e'.1 (by rw [hO e' he', hbit]; rfl)) (fun e' he' hbit => hoff e'.1 (by rw [hO e' he', hbit]; rfl))
      refine ⟨oi, h1, fun K hK => h2 K fun a' w' hg => hK a' w' ⟨[], tail, rfl, fun _ h => absurd h (by simp), fun t ht => ?_, fun _ => hg, fun h => absurd rfl h⟩⟩
      rw [up_ne (hnl e he t ht).symm]
      subst hp0
      exact hrest t (by rw [← List.nil_append rest, ← htail]; exact ht)
    · have hir : i ∈ rest := by
        rw [htail] at hi
        rcases List.mem_append.1 hi with h | h
        · have := hpre i h
          rw [hb] at this; cases this
        · exact h
      cases rest with
      | nil => simp at hir
      | cons x rest =>
        have hxi : x = i := by
          rcases List.mem_cons.1 hir with h | h
          · exact h.symm
          · have h1 := pairB_mem hpair.1 htail h
            have hx : x ∈ tail := by rw [htail]; simp
            have h2 := hon x (by rw [hOl x hx, h1]; rfl)
            rw [hrest x (by simp)] at h2; cases h2
        subst hxi
        have hseq : seqWp P ops Q (x :: rest) a w := by
          by_cases hp0 : pre = []
          · obtain ⟨V, hV⟩ := hg hp0
            have hall : ∀ e ∈ D, b e.1 = true := fun e he => hon e.1 (by rw [hO e he, hlast' x hi e he]; rfl)
            have hfr : a = putSel a0 (fun _ => true) (vrows D V) := by
              rw [hV.frame]
              have : ∀ (L : List (Nat × Tmp × Value)) (a : Act), (∀ x ∈ L, b x.1 = true) → putSel a b L = putSel a (fun _ => true) L := fun L => by
                induction L with
                | nil => intro a _; rfl
                | cons x L ih =>
                  intro a hx
                  simp only [putSel, hx x (by simp), if_true]
                  exact ih _ (fun y hy => hx y (by simp [hy]))
              refine this _ _ (fun x hx => ?_)
              obtain ⟨e, he, rfl⟩ := List.mem_map.1 hx
              exact hall e he
            have h1 := hfin V a w hfr hV.below (fun e he => hV.pr e he (hall e he)) (fun e he e' he' hc => hV.apart e he e' he' (hall e he) (hall e' he') hc) (fun e he => hV.lt e he (hall e he))
            rw [htail, hp0] at h1
            exact h1
          · exact hq hp0
        obtain ⟨oi, ho, hstep⟩ := hseq
        have hpn : (pre ++ [x]) ≠ [] := by simp
        have hnt : (pre ++ x :: rest).Nodup := by rw [← htail]; exact hnd.2.1
        have hxr : x ∉ rest := fun h => by
          have := (List.nodup_append.1 hnt).2.1
          simp only [List.nodup_cons] at this
          exact this.1 h
        refine ⟨oi, ho, fun K hK => ?_⟩
        have key : ∀ a' w', seqWp P ops Q rest a' w' → K a' w' := fun a' w' h => hK.out a' w' ⟨pre ++ [x], rest, by rw [htail]; simp, fun j hj => by
            by_cases hjx : j = x
            · rw [hjx]; exact up_self _ _
            · rw [up_ne hjx]
              rcases List.mem_append.1 hj with hj | hj
              · exact hpre j hj
              · simp at hj; exact absurd hj hjx, fun j hj => by
            have hjx : j ≠ x := by
              intro hh
              rw [hh] at hj
              exact hxr hj
            rw [up_ne hjx]
            exact hrest j (by simp [hj]), fun h => absurd h hpn, fun _ => h⟩
        by_cases hwt : Region.wanted oi (yielded ops a.tmps) = true
        · rw [if_pos hwt] at hstep ⊢
          exact Oper.wp_mono key hstep
        · rw [if_neg hwt] at hstep ⊢
          exact key _ _ hstep
  · rintro b a w hall ⟨pre, rest, htail, hpre, hrest, hg, hq⟩
    have hr0 : rest = [] := by
      cases rest with
      | nil => rfl
      | cons x rest =>
        have h1 := hrest x (by simp)
        rw [hall x (hOl x (by rw [htail]; simp))] at h1
        cases h1
    subst hr0
    rw [List.append_nil] at htail
    exact hq (htail ▸ hne)
end

/-! ### append to a new empty slice -/
theorem run_append_lit {P : Program} {w : World} {s : Nat} (t ty e : TypeId) (z : Value) (bytes : Nat) (ht : P.underlying t = some (.slice e)) (hinfo : (P.info? e).map (fun i => (i.zero, i.size, i.bytes)) = some (some z, 1, bytes)) (hz : z.cells.size = 1) (hs : Blk w s e [])
    {A : Option Addr} {n c : Nat} {us : List Value} (hr : Row1 w A n us) (h1 : ∀ u ∈ us, u.oneCell' = true) (h63 : n ≤ maxLen) (hb : n * bytes ≤ 140737488355328) (base : Nat) (hbase : base ≤ s) :
    ∃ v w', (Builtin.append_ #[t, t] ty #[.slice (some ⟨s, 0, none⟩) 0 0, .slice A n c]).run P w = .ok v w' ∧ Below w.heap.size w w' ∧ w'.ownsRow base e 1 v n us ∧ ∀ k, v.ownBlock = some k → k < w'.heap.size ∧ (w.heap.size ≤ k ∨ k = s) := by
  obtain ⟨i0, hi, hzz⟩ := Option.map_eq_some_iff.1 hinfo
  simp only [Prod.mk.injEq] at hzz
  obtain ⟨hz0, hz1, hz2⟩ := hzz
  have hlt := hs.lt
  rcases Nat.eq_zero_or_pos n with rfl | hn
  · have hus : us = [] := List.eq_nil_of_length_eq_zero hr.1
    subst hus
    have hown : w.ownsRow base e 1 (.slice (some ⟨s, 0, none⟩) 0 0) 0 [] := ⟨by simp, .inr ⟨s, 0, #[], rfl, hbase, hs, Nat.le_refl _, by simp [maxLen], by simp, by simp⟩⟩
    have hrun : (Builtin.append_ #[t, t] ty #[.slice (some ⟨s, 0, none⟩) 0 0, .slice A 0 c]).run P w = .ok (.slice (some ⟨s, 0, none⟩) 0 0) w := by
      cases A with
      | none =>
        simp [Builtin.append_, run_underlying ht, sizeOf, typeInfo, hi, Builtin.lenOf, Builtin.firstCells, storeCells, loadCells, loadCellsFrom, hz1, Result.andThen]
      | some ad =>
        simp [Builtin.append_, run_underlying ht, sizeOf, typeInfo, hi, Builtin.lenOf, Builtin.firstCells, storeCells, loadCells, loadCellsFrom, hz1, Result.andThen]
    exact ⟨_, w, hrun, Below.refl _ _, hown, fun k hk => by
      simp [Value.ownBlock] at hk
      subst hk
      exact ⟨hlt, .inr rfl⟩⟩
  · obtain ⟨ad, rfl, hc⟩ := hr.2 hn
    obtain ⟨v, w', hrun, hown, hg⟩ := run_append_arg_grows (P := P) w t ty e i0 z 1 bytes ht hi hz0 hz1 hz2 hz (by decide) ⟨s, 0, none⟩ 0 0 [] (by simp) (by simp) ad n c us (by have := hr.1; omega) hc (by omega) (by omega) (by rw [Nat.zero_add]; exact hb)
    refine ⟨v, w', by simpa using hrun, ⟨hg.os, hg.tape, hg.output, hg.size, fun k hk => hg.block k hk (by simp)⟩, ?_, fun k hk => ?_⟩
    · have : w'.ownsRow w.heap.size e 1 v n us := by simpa using hown
      exact own_weaken this (by omega)
    · have := World.ownsRow.lt hown k hk
      exact ⟨this.2, .inl this.1⟩
end Go.Proofs.Yteeficpjggimcaa
