/- Joined texts: Calls13A Law13F Calls13B HelpS Calls13D. -/
import Derived.Test.YtphhdmopfmelbaaGreatM4
import Derived.Test.YtphhdmopfmelbaaGreatM6
import Derived.Test.YtphhdmopfmelbaaGreatM10
import Derived.StillTailTactics

/- larchlaw13.HelpCalls: its records in memory; at. -/
namespace Go.Proofs.YtphhdmopfmelbaaGreat
open Go.RowKit Go.Proofs.YtphhdmopfmelbaaGreatW.PrintWords
set_option linter.unusedVariables false
set_option linter.unusedSimpArgs false

abbrev TSR : Nat := 33
abbrev TSX : Nat := 40
abbrev TSS : Nat := 32
abbrev TSB : Nat := 4
theorem pinfo_srec : (Tryz.prog.info? 33).map (fun i => (i.zero, i.size, i.bytes)) = some (some (.pointer none), 1, 8) := by kernel_rfl
theorem pinfo_sscx : (Tryz.prog.info? 40).map (fun i => (i.zero, i.size, i.bytes)) = some (some (.pointer none), 1, 8) := by kernel_rfl
/-- What the law has while it makes its records: the argument's box, the cell of rs (whose row holds rsm), what stands in memory. -/
structure LInv (w : World) (bc bs : Nat) (cs : List Value) (wr : World) (R : Nat → Option RecO) (X : Nat → Option ScxO) (rsm rs fs xs : List Nat) (v : Value) (F : Nat → List (Option Nat)) (I : Nat → Option Nat) (M : Nat → Bool) (P : Nat → ScxO → Prop) : Prop where
  stage : StageS wr w.heap.size R X rs fs xs F I M P
  own : wr.ownsRow w.heap.size TSR 1 v rsm.length (rsm.map fun b => pv (some b))
  cell : Blk wr bs TSS [v]
  box : Blk wr bc TCA13 cs
  below : Below w.heap.size w wr
  hb : w.heap.size ≤ bs
section
variable {w wr w1 : World} {bc bs b : Nat} {cs : List Value} {R R' : Nat → Option RecO} {X X' : Nat → Option ScxO} {rsm rs fs xs rs' fs' xs' : List Nat} {v v' : Value} {F F' : Nat → List (Option Nat)} {I I' : Nat → Option Nat} {M M' : Nat → Bool} {P P' : Nat → ScxO → Prop}
theorem LInv.grow (h : LInv w bc bs cs wr R X rsm rs fs xs v F I M P) (hb : Below wr.heap.size wr w1) (hs : StageS w1 w.heap.size R' X' rs' fs' xs' F' I' M' P') : LInv w bc bs cs w1 R' X' rsm rs' fs' xs' v F' I' M' P' :=
  ⟨hs, owns_fr h.own (S := fun _ => False) (Fr.of_below0 hb) (fun _ _ => id), h.cell.below hb h.cell.lt, h.box.below hb h.box.lt, h.below.trans (hb.mono h.below.size), h.hb⟩
theorem LInv.on (h : LInv w bc bs cs wr R X rsm rs fs xs v F I M P) (hb : Below wr.heap.size wr w1) : LInv w bc bs cs w1 R X rsm rs fs xs v F I M P := h.grow hb (h.stage.below hb)
theorem LInv.drew (h : LInv w bc bs cs wr R X rsm rs fs xs v F I M P) : LInv w bc bs cs wr.drew R X rsm rs fs xs v F I M P := h.on (Below.refl _ _).drew
theorem LInv.cong (h : LInv w bc bs cs wr R X rsm rs fs xs v F I M P) (h1 : ∀ i, F i = F' i) (h2 : ∀ i, I i = I' i) (h3 : ∀ i, M i = M' i) : LInv w bc bs cs wr R X rsm rs fs xs v F' I' M' P :=
  ⟨h.stage.cong (fun i _ => h1 i) (fun i _ => h2 i) (fun i _ => h3 i) (fun _ _ _ h => h), h.own, h.cell, h.box, h.below, h.hb⟩
theorem LInv.push (h : LInv w bc bs cs wr R X rsm rs fs xs v F I M P) (hg : wr.grownBy w1 v.ownBlock) (ho : w1.ownsRow w.heap.size TSR 1 v' (rsm.length + 1) ((rsm.map fun b => pv (some b)) ++ [pv (some b)])) :
    LInv w bc bs cs (w1.setCell ⟨bs, 0, none⟩ v') R X (rsm ++ [b]) rs fs xs v' F I M P := by
  have hf : Fr wr (w1.setCell ⟨bs, 0, none⟩ v') (Pushed bs v) := pushed_fr hg
  have ht := fun k hk => pushed_types h.cell h.own (k := k) hk
  have hm1 : Blk w1 bs TSS [v] := (Fr.of_grown hg).blk h.cell (fun e => by
    obtain ⟨c, hc⟩ := owns_typed h.own bs e.symm
    exact absurd (h.cell.inj hc).1 (by decide))
  refine ⟨h.stage.rep' (h.stage.rep.types hf (fun k hk => ?_)), by simpa using owns_store ho hm1 (by decide), hm1.set 0 v', hf.blk h.box (fun hk => ?_), h.below.trans (hf.below h.below.size (fun k hk => ?_)), h.hb⟩
  · obtain ⟨T, ys, hb, hT⟩ := ht k hk
    exact ⟨T, ys, hb, by rcases hT with rfl | rfl <;> decide⟩
  · obtain ⟨T, ys, hb, hT⟩ := ht _ hk
    have hTW := (hb.inj h.box).1
    rcases hT with rfl | rfl <;> exact absurd hTW (by decide)
  · rcases hk with rfl | hk
    · exact h.hb
    · exact (World.ownsRow.lt h.own k hk.symm).1
/-- Record i has turned: its fields, or the record itself. -/
theorem LInv.turn (h : LInv w bc bs cs wr R X rs rs fs xs v F I M P) {i fb : Nat} (hi : rs[i]? = some b) (ho : R b = some ⟨[strR], fb, F i, I i, M i⟩) {fl : List (Option Nat)} {inf : Option Nat} {mk : Bool} {c : Nat} (hc : c = b ∨ c = fb) (hf : Fr wr w1 (fun k => k = c))
    (hrep : Repstring w1 (upd R b ⟨[strR], fb, fl, inf, mk⟩) X) :
    LInv w bc bs cs w1 (upd R b ⟨[strR], fb, fl, inf, mk⟩) X rs rs fs xs v (fun k => if k = i then fl else F k) (fun k => if k = i then inf else I k) (fun k => if k = i then mk else M k) P := by
  have hT : w.heap.size ≤ c ∧ ∃ T ys, Blk wr c T ys ∧ T ≠ TSR ∧ T ≠ TSS ∧ T ≠ TCA13 := by
    rcases hc with rfl | rfl
    · exact ⟨h.stage.lo _ (by simp [List.mem_of_getElem? hi]), _, _, (h.stage.rep.recs _ _ ho).1, by decide, by decide, by decide⟩
    · obtain ⟨fb', h1, h2⟩ := h.stage.r i b hi
      rw [ho] at h1
      have : c = fb' := by simpa using congrArg RecO.fb (Option.some.inj h1)
      subst this
      exact ⟨h2, _, _, h.stage.rep.fld _ _ ho, by decide, by decide, by decide⟩
  obtain ⟨hge, T, ys, hb, h1, h2, h3⟩ := hT
  refine ⟨h.stage.setRec hi ho hrep, owns_fr h.own hf (fun k hk e => ?_), hf.blk h.cell (fun e => ?_), hf.blk h.box (fun e => ?_), h.below.trans (hf.below h.below.size (fun k hk => hk ▸ hge)), h.hb⟩
  · subst e
    obtain ⟨c1, hc1⟩ := owns_typed h.own k hk
    exact h1 (hb.inj hc1).1
  · subst e; exact h2 (hb.inj h.cell).1
  · subst e; exact h3 (hb.inj h.box).1
/-- The cell of rs, and what stands in its row. -/
theorem LInv.at_ (h : LInv w bc bs cs wr R X rs rs fs xs v F I M P) {j : Nat} (hj : j < rs.length) : ∃ a c, wr.cell? ⟨bs, 0, none⟩ = some (.slice (some ⟨a, 0, none⟩) rs.length c) ∧ wr.cell? ⟨a, j, none⟩ = some (pv rs[j]?) := by
  obtain ⟨a, c, hv, hc⟩ := owns_at h.own hj
  exact ⟨a, c, by rw [h.cell.cell 0, hv]; rfl, hc⟩
theorem LInv.rsAt (h : LInv w bc bs cs wr R X rs rs fs xs v F I M P) : ∃ A c, wr.cell? ⟨bs, 0, none⟩ = some (.slice A rs.length c) ∧ v = .slice A rs.length c := by
  obtain ⟨A, c, hv, _⟩ := owns_slice h.own
  exact ⟨A, c, by rw [h.cell.cell 0, hv]; rfl, hv⟩
/-- at: the record of the number. -/
theorem law13_at (h : LInv w bc bs cs wr R X rs rs fs xs v F I M P) (n : Int) (n0 : -1 ≤ n) (n1 : n < rs.length) :
    Calls Tryz.prog 7 #[.int .i64 n, .pointer (some ⟨bs, 0, none⟩)] wr fun e w' => e = .returned (pv (rp rs n)) ∧ wr = w' := by
  by_cases hn : n < 0
  · rw [show rp rs n = none by simp [rp, hn]]
    clear h
    go_enter Tryz.func7, Tryz.ntmps7
    go_wp2
    go_ret
    exact ⟨rfl, rfl⟩
  · rw [show rp rs n = rs[n.toNat]? by simp [rp, hn]]
    obtain ⟨b, c, hm, hc⟩ := h.at_ (j := n.toNat) (by omega)
    generalize rs[n.toNat]? = p at *
    clear h
    go_enter Tryz.func7, Tryz.ntmps7
    go_wp2
    go_ret
    exact ⟨rfl, rfl⟩
end
theorem swing_nil_string (R : Nat → Option RecO) (X : Nat → Option ScxO) (w : World) (h : Repstring w R X) (b : Nat) (o : RecO) (ho : R b = some o) (i : Nat) (hi : i < o.fields.length) (hn : o.fields.getD i none = none) (y : Option Nat) (hy : Ok R y) :
    Calls Tryz.prog 8 #[pv (some b), .nilIface, .int .i64 i, .pointer none, pv y] w fun e w' => e = .returned (.bool true) ∧ Fr w w' (fun k => k = o.fb) ∧ Repstring w' (upd R b { o with fields := o.fields.set i y }) X := by
  refine (swing_string 0 none [] R X w h (gnil w) (Nat.zero_le _) (by simp) b o ho i (by omega) (by omega) none y (Ok.none R) hy).mono ?_
  rintro e w1 ⟨rfl, H, hr⟩
  simp only [Int.toNat_natCast] at hr ⊢
  rw [if_pos hn] at hr
  exact ⟨by rw [decide_eq_true hn], H.fr0, hr⟩
/-- After j records. -/
def LI1 (w : World) (bc bs : Nat) (cs : List Value) (d : WD) (j : Nat) (wr : World) : Prop :=
  ∃ R X rs fs v, rs.length = j ∧ LInv w bc bs cs wr R X rs rs fs [] v (fun i => List.replicate (d.fields.getD i []).length none) (fun i => fs[i]?) (fun _ => false) (fun _ _ => True)
theorem LI1.start {w w2 : World} {bc : Nat} {cs : List Value} (d : WD) (hk : Blk w2 bc TCA13 cs) (hb : Below w.heap.size w w2) : LI1 w bc w2.heap.size cs d 0 (w2.alloc (.cells #[.slice none 0 0] TSS)) :=
  ⟨fun _ => none, fun _ => none, [], [], .slice none 0 0, rfl, ⟨Rep.empty _ _ _ _ _, by simp, by simp, rfl, (fun i b hb => by simp at hb), (fun i b hb => by simp at hb), (fun b hb => by simp at hb), (fun b hb => by simp at hb)⟩, World.ownsRow_nil _ _ _ _, Blk.new w2 TSS [.slice none 0 0], hk.alloc _, hb.alloc hb.size _, hb.size⟩
/-- After the fields of j records and q of the next. -/
def LI2 (w : World) (bc bs : Nat) (cs : List Value) (d : WD) (rs fs : List Nat) (v : Value) (j q : Nat) (wr : World) : Prop :=
  ∃ R X, LInv w bc bs cs wr R X rs rs fs [] v (FF rs d j q) (fun i => fs[i]?) (fun _ => false) (fun _ _ => True)
end Go.Proofs.YtphhdmopfmelbaaGreat

/- larchlaw13: has, fresh. -/
namespace Go.Proofs.YtphhdmopfmelbaaGreat
open Go.RowKit Go.Proofs.YtphhdmopfmelbaaGreatW.PrintWords Go.Proofs.YtphhdmopfmelbaaGreatW.PrintLast
set_option linter.unusedVariables false
set_option linter.unusedSimpArgs false

theorem not_mem_take {xs : List Int} {n : Int} {j : Nat} (hj : j < xs.length) (h : n ∉ xs.take j) (he : ¬ xs[j] = n) : n ∉ xs.take (j + 1) := by
  rw [List.take_add_one, List.getElem?_eq_getElem hj]
  simp only [Option.toList_some, List.mem_append, List.mem_singleton]
  rintro (h1 | h1)
  · exact h h1
  · exact he h1.symm
set_option maxHeartbeats 2000000 in
set_option maxRecDepth 100000 in
theorem law13_has (A : Option Addr) (c : Nat) (xs : List Int) (n : Int) (w : World) (hr : Row1 w A xs.length (xs.map (Value.int .i64))) (hl : xs.length < 1000000000000000) :
    Calls Tryz.prog 18 #[.slice A xs.length c, .int .i64 n] w fun e w' => e = .returned (.bool (decide (n ∈ xs))) ∧ w' = w := by
  refine calls_hide fun Q HQ => ?_
  have HQ' := Lib.hid HQ
  have HR := Lib.hid hr
  clear HQ hr
  go_enter Tryz.func18, Tryz.ntmps18
  go_wp2
  go_loopw [9] (fun k wr => ∃ j : Nat, j ≤ xs.length ∧ k = .int .i64 j ∧ n ∉ xs.take j ∧ w = wr) (fun k _ => xs.length - (intOf k).toNat)
  case atStart => exact ⟨0, Nat.zero_le _, rfl, by simp, rfl⟩
  case round =>
    obtain ⟨j, hj, rfl, hn, hw⟩ := hrel
    subst hw
    have HN := Lib.hid hn
    clear hn
    by_cases hlt : j < xs.length
    · obtain ⟨ad, hA, hc⟩ := HR.out.at_ (j := j) (u := .int .i64 xs[j]) (by simp [List.getElem?_eq_getElem hlt])
      have HT := Lib.hid (not_mem_take hlt HN.out)
      have HM := Lib.hid (List.getElem_mem hlt)
      clear HN
      generalize xs[j] = x at *
      subst hA
      by_cases he : x = n
      · have heb : ((x : Int) == n) = true := by rw [beq_iff_eq]; exact he
        have HZ := Lib.hid (decide_eq_true (he ▸ HM.out))
        rw [HZ.out] at HQ'
        clear HZ HM HT he
        go_wp2
        exact HQ'.out _ _ ⟨rfl, rfl⟩
      · have heb : ((x : Int) == n) = false := by rw [beq_eq_false_iff_ne]; exact he
        have HT2 := Lib.hid (HT.out he)
        clear HT HM he
        go_wp2
        go_roundw
        case rel => exact ⟨j + 1, by omega, by go_num, HT2.out, by first | rfl | trivial⟩
        case measure => simp [intOf]; omega
    · have hje : j = xs.length := by omega
      subst hje
      have hn := HN.out
      rw [List.take_length] at hn
      have HZ := Lib.hid (decide_eq_false hn)
      rw [HZ.out] at HQ'
      clear HZ HN hn
      go_wp2
      exact HQ'.out _ _ ⟨rfl, rfl⟩

/-- A fresh world with fresh plans. -/
structure FreshD (d : WD) (ps : List PlanD) : Prop where
  i : ∀ n ∈ d.infos, n = -1
  m : ∀ b ∈ d.marks, b = false
  s : ∀ n ∈ d.states, n = 0
  f : ∀ b ∈ d.frozen, b = false
  p : ∀ p ∈ ps, ∀ n ∈ p.infos, n = -1
theorem all_take1 {α : Type} {P : α → Prop} {l : List α} {j : Nat} (hj : j < l.length) (h : ∀ x ∈ l.take j, P x) (h1 : P l[j]) : ∀ x ∈ l.take (j + 1), P x := by
  rw [List.take_add_one, List.getElem?_eq_getElem hj]
  intro x hx
  simp only [Option.toList_some, List.mem_append, List.mem_singleton] at hx
  rcases hx with hx | rfl
  · exact h x hx
  · exact h1
set_option maxHeartbeats 8000000 in
set_option maxRecDepth 100000 in
theorem law13_fresh (w : World) (v : WV) (d : WD) (A : Option Addr) (c : Nat) (l : List PX) (As Ap : Option Addr) (ns cs np cp : Nat) (hv : v.Reads w d) (hp : PlansAt w A l) (hl : d.fields.length < 1000000000000000) (hl3 : d.states.length < 1000000000000000) (hr : ∀ r ∈ d.fields, r.length < 1000000000000000) (hl4 : l.length < 1000000000000000) (hl5 : ∀ x ∈ l, x.p.V.length < 1000000000000000) :
    Calls Tryz.prog 5 #[.agg #[.slice v.A0 d.fields.length v.c0, .slice v.A1 d.infos.length v.c1, .slice v.A2 d.marks.length v.c2, .slice v.A3 d.states.length v.c3, .slice v.A4 d.frozen.length v.c4, .slice A l.length c, .slice As ns cs, .slice Ap np cp]] w fun e w' => ∃ b, e = .returned (.bool b) ∧ (b = true → chkH d (l.map PX.p) = 0 ∧ FreshD d (l.map PX.p)) ∧ Below w.heap.size w w' := by
  refine calls_hide fun Q HQ => ?_
  have HQ' := Lib.hid HQ
  have HV := Lib.hid hv
  have HP := Lib.hid hp
  have HL5 := Lib.hid hl5
  have hbk := Blk.new w TCA13 [.slice v.A0 d.fields.length v.c0, .slice v.A1 d.infos.length v.c1, .slice v.A2 d.marks.length v.c2, .slice v.A3 d.states.length v.c3, .slice v.A4 d.frozen.length v.c4, .slice A l.length c, .slice As ns cs, .slice Ap np cp]
  have hal := (Below.refl w.heap.size w).alloc (Nat.le_refl _) (.cells #[.slice v.A0 d.fields.length v.c0, .slice v.A1 d.infos.length v.c1, .slice v.A2 d.marks.length v.c2, .slice v.A3 d.states.length v.c3, .slice v.A4 d.frozen.length v.c4, .slice A l.length c, .slice As ns cs, .slice Ap np cp] TCA13)
  have HCK := Lib.hid (ref13_Check _ v d A c l (hv.below hal) (hp.below hal) hl hl3 hr hl4 hl5)
  have HK := Lib.hid hbk
  have HB := Lib.hid hal
  clear HQ hv hp hr hl5 hbk hal
  go_enter Tryz.func5, Tryz.ntmps5
  go_wp2_with fail
  refine HCK.out.mono ?_
  rintro e w1 ⟨rfl, hb1⟩
  have HB1 := Lib.hid (HB.out.trans (hb1.mono HB.out.size))
  have HK1 := Lib.hid (HK.out.below hb1 HK.out.lt)
  clear hb1 HB HK HCK
  by_cases hc : chkH d (l.map PX.p) = 0
  case neg =>
    have hcb : (chkH d (l.map PX.p) != 0) = true := by rw [bne_iff_ne]; exact hc
    have HC := Lib.hid (show ∀ b, b = false → (b = true → chkH d (l.map PX.p) = 0 ∧ FreshD d (l.map PX.p)) from fun b h1 h2 => by rw [h1] at h2; cases h2)
    generalize chkH d (l.map PX.p) = ck at *
    clear hc
    go_wp2
    exact HQ'.out _ _ ⟨_, rfl, HC.out _ rfl, HB1.out⟩
  obtain ⟨hnb, hform, hps, hfits⟩ := chkH_zero hc
  rw [List.length_map] at hps
  have HFM := Lib.hid hform
  have HLL := Lib.hid hps
  have HFT := Lib.hid (show ∀ x ∈ l, x.p.Fits d from fun x hx => hfits _ (List.mem_map_of_mem hx))
  have HCZ := Lib.hid hc
  have hil : d.infos.length < 1000000000000000 := by have := hform.e1; omega
  rw [hc]
  clear hnb hform hps hfits hc
  have k0 := HK1.out.cell 0
  have k1 := HK1.out.cell 1
  have k2 := HK1.out.cell 2
  have k3 := HK1.out.cell 3
  have k4 := HK1.out.cell 4
  have k5 := HK1.out.cell 5
  simp only [List.getElem?_cons_zero, List.getElem?_cons_succ] at k0 k1 k2 k3 k4 k5
  go_wp2
  clear k0 k1 k2 k3 k4 k5
  go_loopw [17] (fun k wr => ∃ j : Nat, j ≤ d.infos.length ∧ k = .int .i64 j ∧ (∀ n ∈ d.infos.take j, n = -1) ∧ (∀ b ∈ d.marks.take j, b = false) ∧ w1 = wr) (fun k _ => d.infos.length - (intOf k).toNat)
  case atStart => exact ⟨0, Nat.zero_le _, rfl, by simp, by simp, rfl⟩
  case round =>
    obtain ⟨j, hj, rfl, hi, hm, hw⟩ := hrel
    subst hw
    have HI := Lib.hid hi
    have HM := Lib.hid hm
    clear hi hm
    have k0 := HK1.out.cell 0
    have k1 := HK1.out.cell 1
    have k2 := HK1.out.cell 2
    have k3 := HK1.out.cell 3
    have k4 := HK1.out.cell 4
    have k5 := HK1.out.cell 5
    simp only [List.getElem?_cons_zero, List.getElem?_cons_succ] at k0 k1 k2 k3 k4 k5
    have HV1 := Lib.hid (HV.out.below HB1.out)
    by_cases hlt : j < d.infos.length
    · have hltm : j < d.marks.length := by have := HFM.out.e1; have := HFM.out.e2; omega
      obtain ⟨ad1, hA1, hr1⟩ := int_at HV1.out.h1 hlt
      obtain ⟨ad2, hA2, hr2⟩ := bool_at HV1.out.h2 hltm
      have HTI := Lib.hid (all_take1 (P := fun n : Int => n = -1) hlt HI.out)
      have HTM := Lib.hid (all_take1 (P := fun b : Bool => b = false) hltm HM.out)
      have HHM := Lib.hid (Nat.lt_of_le_of_lt (Nat.le_of_eq HFM.out.e2) hl)
      clear HI HM HV1
      generalize d.infos[j] = x at *
      generalize d.marks[j] = y at *
      by_cases hx : x = -1
      · subst hx
        cases y with
        | true =>
          obtain ⟨A0, c0, A1, c1, A2, c2, A3, c3, A4, c4⟩ := v
          simp only at hA1 hA2 k0 k1 k2 k3 k4
          subst hA1 hA2
          clear HTI HTM
          go_wp2
          exact HQ'.out _ _ ⟨_, rfl, (fun h => by cases h), HB1.out⟩
        | false =>
          have HTI2 := Lib.hid (HTI.out rfl)
          have HTM2 := Lib.hid (HTM.out rfl)
          obtain ⟨A0, c0, A1, c1, A2, c2, A3, c3, A4, c4⟩ := v
          simp only at hA1 hA2 k0 k1 k2 k3 k4
          subst hA1 hA2
          clear HTI HTM
          go_wp2
          go_roundw
          case rel => exact ⟨j + 1, by omega, by go_num, HTI2.out, HTM2.out, by first | rfl | trivial⟩
          case measure => simp [intOf]; omega
      · have hxb : ((x : Int) != -1) = true := by rw [bne_iff_ne]; exact hx
        obtain ⟨A0, c0, A1, c1, A2, c2, A3, c3, A4, c4⟩ := v
        simp only at hA1 hA2 k0 k1 k2 k3 k4
        subst hA1 hA2
        clear HTI HTM hx
        go_wp2
        exact HQ'.out _ _ ⟨_, rfl, (fun h => by cases h), HB1.out⟩
    · have hje : j = d.infos.length := by omega
      have HMI := Lib.hid (show ∀ n ∈ d.infos, n = -1 from by have := HI.out; rwa [hje, List.take_length] at this)
      have HMM := Lib.hid (show ∀ b ∈ d.marks, b = false from by have := HM.out; rwa [hje, HFM.out.e1, ← HFM.out.e2, List.take_length] at this)
      clear HI HM HV1
      subst hje
      clear hlt hj
      go_wp2
      clear k0 k1 k2 k3 k4 k5
      go_loopw [39] (fun k wr => ∃ j : Nat, j ≤ l.length ∧ k = .int .i64 j ∧ (∀ n ∈ d.states.take j, n = 0) ∧ (∀ b ∈ d.frozen.take j, b = false) ∧ (∀ x ∈ l.take j, ∀ n ∈ x.p.infos, n = -1) ∧ Below w.heap.size w wr ∧ Blk wr w.heap.size TCA13 [.slice v.A0 d.fields.length v.c0, .slice v.A1 d.infos.length v.c1, .slice v.A2 d.marks.length v.c2, .slice v.A3 d.states.length v.c3, .slice v.A4 d.frozen.length v.c4, .slice A l.length c, .slice As ns cs, .slice Ap np cp]) (fun k _ => l.length - (intOf k).toNat)
      case atStart => exact ⟨0, Nat.zero_le _, rfl, by simp, by simp, by simp, HB1.out, HK1.out⟩
      case round =>
        clear HB1 HK1
        obtain ⟨j, hj, rfl, hs, hf, hi, hb, hk⟩ := hrel
        have HB := Lib.hid hb
        have HK := Lib.hid hk
        have HS := Lib.hid hs
        have HF := Lib.hid hf
        have HI := Lib.hid hi
        clear hb hk hs hf hi
        by_cases hlt : j < l.length
        · have hlts : j < d.states.length := by rw [← HLL.out]; exact hlt
          have hltf : j < d.frozen.length := by rw [HFM.out.e4]; exact hlts
          have HV1 := Lib.hid (HV.out.below HB.out)
          obtain ⟨ad3, hA3, hr3⟩ := int_at HV1.out.h3 hlts
          obtain ⟨ad4, hA4, hr4⟩ := bool_at HV1.out.h4 hltf
          obtain ⟨pb, po, hA, p0, p1, p2, p3, p4, p5, p6⟩ := HP.out.at_ hlt
          have q0 := pw_cell_below HB.out p0
          have q1 := pw_cell_below HB.out p1
          have q2 := pw_cell_below HB.out p2
          have q3 := pw_cell_below HB.out p3
          have q4 := pw_cell_below HB.out p4
          have q5 := pw_cell_below HB.out p5
          have q6 := pw_cell_below HB.out p6
          have hrl := HL5.out _ (List.getElem_mem hlt)
          have HXF := Lib.hid (HFT.out _ (List.getElem_mem hlt))
          have HXR := Lib.hid (HP.out.reads _ (List.getElem_mem hlt))
          have HTS := Lib.hid (all_take1 (P := fun n : Int => n = 0) hlts HS.out)
          have HTF := Lib.hid (all_take1 (P := fun b : Bool => b = false) hltf HF.out)
          have HTI := Lib.hid (all_take1 (P := fun x : PX => ∀ n ∈ x.p.infos, n = -1) hlt HI.out)
          have HLF := Lib.hid (Nat.lt_of_le_of_lt (Nat.le_of_eq HFM.out.e4) hl3)
          clear p0 p1 p2 p3 p4 p5 p6 HS HF HI HV1
          generalize l[j] = x at *
          generalize d.states[j] = sx at *
          generalize d.frozen[j] = fx at *
          obtain ⟨p, B0, k0, B1, k1, B2, k2⟩ := x
          simp only at q0 q1 q2 q3 q4 q5 q6 hrl
          have HBb := Lib.hid (HB.out.alloc HB.out.size (.cells #[.slice B0 p.V.length k0, .slice B1 p.infos.length k1, .slice B2 p.fin.length k2, .int .i64 p.at_, .int .i64 p.fld, .int .i64 p.old, .int .i64 p.new] 38))
          have HKb := Lib.hid (HK.out.alloc (.cells #[.slice B0 p.V.length k0, .slice B1 p.infos.length k1, .slice B2 p.fin.length k2, .int .i64 p.at_, .int .i64 p.fld, .int .i64 p.old, .int .i64 p.new] 38))
          have HPb := Lib.hid (Blk.new wr 38 [.slice B0 p.V.length k0, .slice B1 p.infos.length k1, .slice B2 p.fin.length k2, .int .i64 p.at_, .int .i64 p.fld, .int .i64 p.old, .int .i64 p.new])
          have HXb := Lib.hid (HXR.out.below HBb.out)
          have hb2 := (Below.refl wr.heap.size wr).alloc (Nat.le_refl _) (.cells #[.slice B0 p.V.length k0, .slice B1 p.infos.length k1, .slice B2 p.fin.length k2, .int .i64 p.at_, .int .i64 p.fld, .int .i64 p.old, .int .i64 p.new] 38)
          have h3 := HKb.out.cell 3
          have h4 := HKb.out.cell 4
          have g1 := HPb.out.cell 1
          have g3 := pw_cell_below hb2 hr3
          have g4 := pw_cell_below hb2 hr4
          have HXR2 := Lib.hid (HXb.out)
          simp only [List.getElem?_cons_zero, List.getElem?_cons_succ] at h3 h4 g1
          clear hb2 hr3 hr4
          by_cases hs : sx = 0
          case neg =>
            have hsb : ((sx : Int) != 0) = true := by rw [bne_iff_ne]; exact hs
            obtain ⟨A0, c0, A1, c1, A2, c2, A3, c3, A4, c4⟩ := v
            simp only at hA3 hA4 h3 h4
            subst hA3 hA4
            subst hA
            clear HTS HTF HTI hs
            go_wp2
            exact HQ'.out _ _ ⟨false, rfl, (fun h => by cases h), HBb.out⟩
          subst hs
          cases fx with
          | true =>
            obtain ⟨A0, c0, A1, c1, A2, c2, A3, c3, A4, c4⟩ := v
            simp only at hA3 hA4 h3 h4
            subst hA3 hA4
            subst hA
            clear HTS HTF HTI
            go_wp2
            exact HQ'.out _ _ ⟨false, rfl, (fun h => by cases h), HBb.out⟩
          | false =>
            have HTS2 := Lib.hid (HTS.out rfl)
            have HTF2 := Lib.hid (HTF.out rfl)
            have hpl : p.infos.length < 1000000000000000 := by have := HXF.out.v1; simp only at this; omega
            obtain ⟨A0, c0, A1, c1, A2, c2, A3, c3, A4, c4⟩ := v
            simp only at hA3 hA4 h3 h4
            subst hA3 hA4
            subst hA
            clear HTS HTF
            go_wp2
            generalize wr.alloc (.cells #[.slice B0 p.V.length k0, .slice B1 p.infos.length k1, .slice B2 p.fin.length k2, .int .i64 p.at_, .int .i64 p.fld, .int .i64 p.old, .int .i64 p.new] 38) = wb at *
            clear q0 q1 q2 q3 q4 q5 q6 h3 h4 g3 g4
            go_loopw [62] (fun k wq => ∃ q : Nat, q ≤ p.infos.length ∧ k = .int .i64 q ∧ (∀ n ∈ p.infos.take q, n = -1) ∧ wb = wq) (fun k _ => p.infos.length - (intOf k).toNat)
            case atStart => exact ⟨0, Nat.zero_le _, rfl, by simp, rfl⟩
            case round =>
              obtain ⟨q, hq, rfl, hp, hw⟩ := hrel
              subst hw
              have HPI := Lib.hid hp
              clear hp
              by_cases hql : q < p.infos.length
              · obtain ⟨ad5, hA5, hr5⟩ := int_at HXb.out.h1 hql
                have HTP := Lib.hid (all_take1 (P := fun n : Int => n = -1) hql HPI.out)
                clear HPI
                simp only at hA5 hr5 HTP
                generalize p.infos[q] = x at *
                subst hA5
                by_cases hx : x = -1
                · subst hx
                  have HTP2 := Lib.hid (HTP.out rfl)
                  clear HTP
                  go_wp2
                  go_roundw
                  case rel => exact ⟨q + 1, by omega, by go_num, HTP2.out, by first | rfl | trivial⟩
                  case measure => simp [intOf]; omega
                · have hxb : ((x : Int) != -1) = true := by rw [bne_iff_ne]; exact hx
                  clear HTP hx
                  go_wp2
                  exact HQ'.out _ _ ⟨false, rfl, (fun h => by cases h), HBb.out⟩
              · have hqe : q = p.infos.length := by omega
                have HTI2 := Lib.hid (HTI.out (by have := HPI.out; rw [hqe, List.take_length] at this; exact this))
                clear HPI HTI
                subst hqe
                go_wp2
                go_roundw
                case rel => exact ⟨j + 1, by omega, by go_num, HTS2.out, HTF2.out, HTI2.out, HBb.out, HKb.out⟩
                case measure => simp [intOf]; omega
        · have hje : j = l.length := by omega
          have HZ := Lib.hid (show FreshD d (l.map PX.p) from ⟨HMI.out, HMM.out, by have := HS.out; rwa [hje, HLL.out, List.take_length] at this, by have := HF.out; rwa [hje, HLL.out, ← HFM.out.e4, List.take_length] at this, fun p hp => by
            obtain ⟨x, hx, rfl⟩ := List.mem_map.1 hp
            have := HI.out
            rw [hje, List.take_length] at this
            exact this x hx⟩)
          clear HS HF HI
          subst hje
          go_wp2
          exact HQ'.out _ _ ⟨true, rfl, fun _ => ⟨HCZ.out, HZ.out⟩, HB.out⟩
end Go.Proofs.YtphhdmopfmelbaaGreat

/- larchlaw13.HelpCalls: what one help does in a fresh world. No walk. -/
namespace Go.Proofs.YtphhdmopfmelbaaGreat
open Go.RowKit Go.Proofs.YtphhdmopfmelbaaGreatW.PrintWords
set_option linter.unusedVariables false
set_option linter.unusedSimpArgs false

theorem frz_fresh (s : Nat) (f : Nat → Option Nat) : ∀ (vs : List Nat) (R : Nat → Option RecO), (∀ r ∈ vs, (rg R r).info = f r ∨ (rg R r).info = some s) →
    (frzR s R (vs.zip (vs.map f))).1 = true ∧ (∀ k, rg (frzR s R (vs.zip (vs.map f))).2.1 k = if k ∈ vs then { rg R k with info := some s } else rg R k) := fun vs => by
  induction vs with
  | nil => intro R _; exact ⟨rfl, fun k => by simp [frzR]⟩
  | cons r vs ih =>
    intro R h
    simp only [List.map_cons, List.zip_cons_cons, frzR]
    by_cases h1 : (rg R r).info = f r
    · rw [if_pos h1]
      obtain ⟨e1, e2⟩ := ih (upd R r { rg R r with info := some s }) (fun k hk => by
        rw [rg_upd]
        split
        · exact .inr rfl
        · exact h k (List.mem_cons_of_mem _ hk))
      refine ⟨e1, fun k => ?_⟩
      simp only [e2, rg_upd]
      by_cases hk : k = r
      · subst hk
        simp
      · simp [hk]
    · rw [if_neg h1]
      have h2 := (h r (List.mem_cons_self ..)).resolve_left h1
      rw [if_pos h2]
      obtain ⟨e1, e2⟩ := ih R (fun k hk => h k (List.mem_cons_of_mem _ hk))
      refine ⟨e1, fun k => ?_⟩
      simp only [e2]
      by_cases hk : k = r
      · subst hk
        have : ({ rg R k with info := some s } : RecO) = rg R k := by rw [← h2]
        simp [this]
      · simp [hk]
theorem frz_some (s : Nat) : ∀ (L : List (Nat × Option Nat)) (R : Nat → Option RecO) (k : Nat), (R k).isSome → ((frzR s R L).2.1 k).isSome := fun L => by
  induction L with
  | nil => intro R k h; exact h
  | cons x L ih =>
    intro R k h
    obtain ⟨r, i⟩ := x
    simp only [frzR]
    split
    · exact ih _ _ (upd_isSome _ h)
    · split
      · exact ih _ _ h
      · exact h
def mkOf (L : List (Nat × Bool)) (k : Nat) : Bool := L.any fun x => x.1 == k && x.2
theorem mrk_rg : ∀ (L : List (Nat × Bool)) (R : Nat → Option RecO) (k : Nat), rg (mrkR R L).1 k = { rg R k with mark := (rg R k).mark || mkOf L k } := fun L => by
  induction L with
  | nil => intro R k; simp [mrkR, mkOf]
  | cons x L ih =>
    intro R k
    obtain ⟨r, f⟩ := x
    cases f with
    | false => simp only [mrkR]; rw [if_neg (by simp), ih]; simp [mkOf]
    | true =>
      simp only [mrkR, if_true, ih, rg_upd]
      by_cases hk : k = r
      · subst hk; simp [mkOf]
      · simp only [if_neg hk, mkOf, List.any_cons, Bool.and_true]
        rw [show (r == k) = false by simpa using fun e => hk e.symm, Bool.false_or]
theorem mrk_some : ∀ (L : List (Nat × Bool)) (R : Nat → Option RecO) (k : Nat), (R k).isSome → ((mrkR R L).1 k).isSome := fun L => by
  induction L with
  | nil => intro R k h; exact h
  | cons x L ih =>
    intro R k h
    obtain ⟨r, f⟩ := x
    simp only [mrkR]
    split
    · exact ih _ _ (upd_isSome _ h)
    · exact ih _ _ h
theorem map_getD_rp (rs : List Nat) (l : List Int) (q : Nat) (h : q < l.length) : (l.map (rp rs)).getD q none = rp rs (l.getD q 0) := by
  simp [List.getD_eq_getElem?_getD, List.getElem?_eq_getElem h]
/-- By numbers: a row of fields, the infos and marks behind one help. -/
def rowH (d : WD) (p : PlanD) (i : Nat) : List Int := if p.V.getD p.at_.toNat 0 = (i : Int) ∧ (d.fields.getD i []).getD p.fld.toNat 0 = p.old then (d.fields.getD i []).set p.fld.toNat p.new else d.fields.getD i []
def infH (p : PlanD) (fs : List Nat) (s i : Nat) : Option Nat := if (i : Int) ∈ p.V then some s else fs[i]?
def finH (p : PlanD) (i : Nat) : Bool := (p.V.zip p.fin).any fun x => x.1 == (i : Int) && x.2
abbrev vsH (rs : List Nat) (p : PlanD) : List Nat := p.V.map fun n => rs.getD n.toNat 0
abbrev isH (fs : List Nat) (p : PlanD) : List (Option Nat) := p.V.map fun n => fs[n.toNat]?
theorem zip_map_fst {α β γ : Type} (g : α → γ) : ∀ (l : List α) (m : List β), (l.map g).zip m = (l.zip m).map fun x => (g x.1, x.2) := fun l => by
  induction l with
  | nil => intro m; rfl
  | cons a l ih => intro m; cases m with
    | nil => rfl
    | cons b m => simp only [List.map_cons, List.zip_cons_cons, ih]
section
variable {w w' : World} {B s : Nat} {R : Nat → Option RecO} {X : Nat → Option ScxO} {rs fs : List Nat} {F : Nat → List (Option Nat)} {P : Nat → ScxO → Prop} {o : ScxO} {d : WD} {ps : List PlanD} {p : PlanD}
theorem helped_kinds (h : StageS w B R X rs fs [s] F (fun i => fs[i]?) (fun _ => false) P) (hlt : ∀ b ∈ fs, b < s) (hrl : rs.length = d.fields.length) (hfd : FreshD d ps) (hform : d.Formed) (hfit : p.Fits d) (hp : p ∈ ps) (e5 : o.frozen = false) (scx : Nat) :
    (helpR R X s o (vsH rs p) (isH fs p) p.fin).2.1 = (helpH d p scx).2.1 := by
  have hV : ∀ n ∈ p.V, 0 ≤ n ∧ n < rs.length := fun n hn => by rw [hrl]; exact hfit.hV n hn
  have hL : ∀ i ∈ List.range (scx + 1), i < scx + 1 := fun i hi => List.mem_range.1 hi
  have hz : (p.V.zip p.infos).map (fun x => ip fs ((List.range (scx + 1)).map fun i => s + (scx - i)) x.1 x.2) = isH fs p := by
    have key : ∀ (V N : List Int), N.length = V.length → (∀ n ∈ N, n = -1) → (V.zip N).map (fun x => ip fs ((List.range (scx + 1)).map fun i => s + (scx - i)) x.1 x.2) = V.map fun n => fs[n.toNat]? := fun V => by
      induction V with
      | nil => intro N _ _; rfl
      | cons v V ih =>
        intro N hN hn
        cases N with
        | nil => cases hN
        | cons n N =>
          have hn1 : n = -1 := hn n (List.mem_cons_self ..)
          subst hn1
          simp only [List.zip_cons_cons, List.map_cons]
          rw [ih N (by simpa using hN) (fun m hm => hn m (List.mem_cons_of_mem _ hm))]
          simp [ip]
    exact key p.V p.infos hfit.v1 (hfd.p p hp)
  have hdi : ∀ n ∈ d.infos, -1 ≤ n ∧ n < (((List.range (scx + 1)).map fun i => s + (scx - i)).length : Int) := fun n hn => by
    rw [hfd.i n hn]; simp; omega
  have hpi : ∀ n ∈ p.infos, -1 ≤ n ∧ n < (((List.range (scx + 1)).map fun i => s + (scx - i)).length : Int) := fun n hn => by
    rw [hfd.p p hp n hn]; simp; omega
  have hnd : (fs ++ (List.range (scx + 1)).map fun i => s + (scx - i)).Nodup := by
    rw [List.nodup_append]
    refine ⟨(List.nodup_append.1 h.ndx).1, ?_, fun a ha b hb e => ?_⟩
    · rw [List.Nodup, List.pairwise_map]
      refine List.Pairwise.imp_of_mem (fun {x y} hx hy h e => h ?_) List.nodup_range
      have := hL x hx
      have := hL y hy
      omega
    · obtain ⟨i, _, rfl⟩ := List.mem_map.1 hb
      have := hlt a ha
      omega
  have := help_sim (xs := (List.range (scx + 1)).map fun i => s + (scx - i)) h.ndr hnd h.len R X d p scx s o (by simp) (fun i b hb => by
    obtain ⟨fb, h1, _⟩ := h.r i b hb
    refine ⟨_, h1, ?_⟩
    have hi : i < d.infos.length := by rw [hform.e1, ← hrl]; exact (List.getElem?_eq_some_iff.1 hb).1
    rw [hfd.i _ (getD_mem hi 0)]
    simp [ip]) (by rw [hform.e1, hrl]) hdi hV hpi (by
    rw [e5]
    by_cases hs : scx < d.frozen.length
    · exact (hfd.f _ (getD_mem hs false)).symm
    · simp [List.getD_eq_getElem?_getD, List.getElem?_eq_none (Nat.le_of_not_lt hs)])
  rw [hz] at this
  exact this
theorem stage_helped (h : StageS w B R X rs fs [s] F (fun i => fs[i]?) (fun _ => false) P) (ho : X s = some o) (hF : ∀ i, i < rs.length → F i = (d.fields.getD i []).map (rp rs)) (hrl : rs.length = d.fields.length) (hform : d.Formed) (hfit : p.Fits d)
    (e1 : o.at_ = p.at_) (e2 : o.fld = p.fld) (e3 : o.old = rp rs p.old) (e4 : o.new = rp rs p.new) :
    (helpR R X s o (vsH rs p) (isH fs p) p.fin).1 = true ∧ (helpR R X s o (vsH rs p) (isH fs p) p.fin).2.2.2 = upd X s { o with frozen := true, state := 1 } ∧
      ∀ w', Repstring w' (helpR R X s o (vsH rs p) (isH fs p) p.fin).2.2.1 (helpR R X s o (vsH rs p) (isH fs p) p.fin).2.2.2 →
        StageS w' B (helpR R X s o (vsH rs p) (isH fs p) p.fin).2.2.1 (helpR R X s o (vsH rs p) (isH fs p) p.fin).2.2.2 rs fs [s] (fun i => (rowH d p i).map (rp rs)) (infH p fs s) (finH p) (fun _ q => q.state = 1 ∧ q.frozen = true) := by
  have hV : ∀ n ∈ p.V, 0 ≤ n ∧ n < rs.length := fun n hn => by rw [hrl]; exact hfit.hV n hn
  have hget : ∀ n ∈ p.V, rs[n.toNat]? = some (rs.getD n.toNat 0) := fun n hn => by
    have := hV n hn
    simp [List.getD_eq_getElem?_getD, List.getElem?_eq_getElem (show n.toNat < rs.length by omega)]
  have hfresh : ∀ r ∈ vsH rs p, ∃ i, rs[i]? = some r ∧ (rg R r).info = fs[i]? := fun r hr => by
    obtain ⟨n, hn, rfl⟩ := List.mem_map.1 hr
    obtain ⟨fb, h1, _⟩ := h.r _ _ (hget n hn)
    exact ⟨n.toNat, hget n hn, by rw [rg_of h1]⟩
  let f : Nat → Option Nat := fun r => (rg R r).info
  have hisf : isH fs p = (vsH rs p).map f := by
    rw [List.map_map]
    refine List.map_congr_left fun n hn => ?_
    obtain ⟨fb, h1, _⟩ := h.r _ _ (hget n hn)
    show fs[n.toNat]? = (rg R (rs.getD n.toNat 0)).info
    rw [rg_of h1]
  obtain ⟨z1, z2⟩ := frz_fresh s f (vsH rs p) R (fun r _ => .inl rfl)
  rw [← hisf] at z1 z2
  have hval : helpR R X s o (vsH rs p) (isH fs p) p.fin = (true, (frzR s R ((vsH rs p).zip (isH fs p))).2.2 ++ 2 :: ((mrkR (frzR s R ((vsH rs p).zip (isH fs p))).2.1 ((vsH rs p).zip p.fin)).2 ++ [5, 2]), swgR (mrkR (frzR s R ((vsH rs p).zip (isH fs p))).2.1 ((vsH rs p).zip p.fin)).1 ((vsH rs p).getD o.at_.toNat 0) o.fld.toNat o.old o.new, upd X s { o with frozen := true, state := 1 }) := by
    unfold helpR
    simp only [z1, if_true]
  rw [hval]
  refine ⟨rfl, rfl, fun w' hrep => ⟨hrep, h.ndr, h.ndx, h.len, fun i b hb => ?_, fun i b hb => ?_, fun b hb => upd_isSome _ (h.f b hb), h.lo⟩⟩
  · obtain ⟨fb, h1, hge⟩ := h.r i b hb
    refine ⟨fb, ?_, hge⟩
    have hil : i < rs.length := (List.getElem?_eq_some_iff.1 hb).1
    have hsome : ∀ k, (R k).isSome → ((mrkR (frzR s R ((vsH rs p).zip (isH fs p))).2.1 ((vsH rs p).zip p.fin)).1 k).isSome := fun k hk => mrk_some _ _ _ (frz_some _ _ _ _ hk)
    have hin : ∀ n ∈ p.V, (rs.getD n.toNat 0 = b ↔ n = (i : Int)) := fun n hn => by
      have hr := hV n hn
      refine ⟨fun e => ?_, fun e => ?_⟩
      · have := nodup_get h.ndr (e ▸ hget n hn) hb
        omega
      · subst e
        have := hget _ hn
        simp only [Int.toNat_natCast] at this
        rw [Int.toNat_natCast]
        rw [hb] at this
        exact (Option.some.inj this).symm
    have hat : p.at_.toNat < p.V.length := by have := hfit.a.1; have := hfit.a.2; omega
    have hvr : (vsH rs p).getD o.at_.toNat 0 = rs.getD (p.V.getD p.at_.toNat 0).toNat 0 := by
      rw [e1]
      simp [List.getD_eq_getElem?_getD, List.getElem?_eq_getElem hat]
    have hva := hin _ (getD_mem hat 0)
    have hmem : b ∈ vsH rs p ↔ (i : Int) ∈ p.V := ⟨fun hm => by
      obtain ⟨n, hn, e⟩ := List.mem_map.1 hm
      exact (hin n hn).1 e ▸ hn, fun hm => List.mem_map.2 ⟨_, hm, (hin _ hm).2 rfl⟩⟩
    have hmk : mkOf ((vsH rs p).zip p.fin) b = finH p i := by
      unfold mkOf finH
      rw [zip_map_fst, List.any_map, Bool.eq_iff_iff, List.any_eq_true, List.any_eq_true]
      refine ⟨fun ⟨x, hx, e⟩ => ⟨x, hx, ?_⟩, fun ⟨x, hx, e⟩ => ⟨x, hx, ?_⟩⟩
      · have hv := hin _ (List.of_mem_zip hx).1
        simp only [Function.comp, Bool.and_eq_true, beq_iff_eq] at e ⊢
        exact ⟨hv.1 e.1, e.2⟩
      · have hv := hin _ (List.of_mem_zip hx).1
        simp only [Function.comp, Bool.and_eq_true, beq_iff_eq] at e ⊢
        exact ⟨hv.2 e.1, e.2⟩
    have hrg : rg R b = ⟨[strR], fb, F i, fs[i]?, false⟩ := rg_of h1
    have hR2 : rg (mrkR (frzR s R ((vsH rs p).zip (isH fs p))).2.1 ((vsH rs p).zip p.fin)).1 b = ⟨[strR], fb, F i, infH p fs s i, finH p i⟩ := by
      rw [mrk_rg, z2, hmk]
      unfold infH
      by_cases hm : (i : Int) ∈ p.V
      · rw [if_pos (hmem.2 hm), if_pos hm, hrg]; simp
      · rw [if_neg (fun e => hm (hmem.1 e)), if_neg hm, hrg]; simp
    have hs3 : (swgR (mrkR (frzR s R ((vsH rs p).zip (isH fs p))).2.1 ((vsH rs p).zip p.fin)).1 ((vsH rs p).getD o.at_.toNat 0) o.fld.toNat o.old o.new b).isSome := upd_isSome _ (hsome b (by rw [h1]; rfl))
    show swgR (mrkR (frzR s R ((vsH rs p).zip (isH fs p))).2.1 ((vsH rs p).zip p.fin)).1 ((vsH rs p).getD o.at_.toNat 0) o.fld.toNat o.old o.new b = _
    rw [rg_some hs3]
    clear hs3
    unfold swgR
    rw [rg_upd, hvr, hF i hil] at *
    by_cases hb2 : p.V.getD p.at_.toNat 0 = (i : Int)
    · have hbr := hva.2 hb2
      rw [hbr, if_pos rfl, hR2]
      have hfl : p.fld.toNat < (d.fields.getD i []).length := by
        have := hfit.f
        rw [hb2] at this
        have h1 := this.1; have h2 := this.2
        simp only [Int.toNat_natCast] at h2
        omega
      have hg : ((d.fields.getD i []).map (rp rs)).getD o.fld.toNat none = rp rs ((d.fields.getD i []).getD p.fld.toNat 0) := by
        rw [e2]; exact map_getD_rp rs _ _ hfl
      have hdm : d.fields.getD i [] ∈ d.fields := getD_mem (by omega) []
      have hbd := hform.hF _ hdm _ (getD_mem hfl 0)
      have hiff : rp rs ((d.fields.getD i []).getD p.fld.toNat 0) = o.old ↔ (d.fields.getD i []).getD p.fld.toNat 0 = p.old := by
        rw [e3]
        exact rp_inj h.ndr hbd.1 (by rw [hrl]; exact hbd.2) hfit.o.1 (by rw [hrl]; exact hfit.o.2)
      simp only [hg, hiff]
      unfold rowH
      by_cases hold : (d.fields.getD i []).getD p.fld.toNat 0 = p.old
      · rw [if_pos hold, if_pos ⟨hb2, hold⟩, e2, e4, List.map_set]
      · rw [if_neg hold, if_neg (fun e => hold e.2)]
    · rw [if_neg (fun e => hb2 (hva.1 e.symm)), hR2]
      unfold rowH
      rw [if_neg (fun e => hb2 e.1)]
  · cases i with
    | zero =>
      simp only [List.getElem?_cons_zero, Option.some.injEq] at hb
      subst hb
      exact ⟨_, upd_self _ _ _, rfl, rfl⟩
    | succ i => simp at hb
end
end Go.Proofs.YtphhdmopfmelbaaGreat

/- help: Help, by a gate, on records of string: what helpR computes. -/
namespace Go.Proofs.YtphhdmopfmelbaaGreat
open Go.RowKit Go.Proofs.YtphhdmopfmelbaaGreatW.PrintWords
set_option linter.unusedVariables false
set_option linter.unusedSimpArgs false

abbrev THRstring : Nat := 33
abbrev THXstring : Nat := 40
theorem hsz_string : ∃ i, Tryz.prog.info? 93 = some i ∧ i.size ≠ 0 := by
  obtain ⟨i, hi, hz⟩ := Option.map_eq_some_iff.1 size_Scxstring
  exact ⟨i, hi, by simpa using hz⟩
/-- An SCX-record's three rows in memory: the records vs, the infos is, the flags fs. -/
structure Rowsstring (w : World) (o : ScxO) (vs : List Nat) (is : List (Option Nat)) (fs : List Bool) (bv bi bf cv ci cf : Nat) (rv ri rf : List Value) : Prop where
  ev : o.sv = .slice (some ⟨bv, 0, none⟩) vs.length cv
  ei : o.si = .slice (some ⟨bi, 0, none⟩) vs.length ci
  ef : o.sf = .slice (some ⟨bf, 0, none⟩) vs.length cf
  hv : Blk w bv THRstring ((vs.map fun b => pv (some b)) ++ rv)
  hi : Blk w bi THXstring (is.map pv ++ ri)
  hf : Blk w bf 4 (fs.map Value.bool ++ rf)
  li : is.length = vs.length
  lf : fs.length = vs.length
/-- What a help may turn: the records of vs, one's fields, the SCX-record. -/
def HelpSstring (vs : List Nat) (fb s : Nat) (k : Nat) : Prop := k ∈ vs ∨ k = fb ∨ k = s
/-- While Help goes. -/
structure HAtstring (B : Nat) (g : Option Nat) (s fb : Nat) (vs : List Nat) (is : List (Option Nat)) (fs : List Bool) (w0 : World) (bv bi bf cv ci cf : Nat) (rv ri rf : List Value) (w : World) (ks : List Int) (R : Nat → Option RecO) (X : Nat → Option ScxO) (o : ScxO) : Prop where
  g0 : B ≤ w0.heap.size
  g1 : GAtI w B g ks
  st : StepI B g w0 w ks (HelpSstring vs fb s)
  rep : Repstring w R X
  rows : Rowsstring w o vs is fs bv bi bf cv ci cf rv ri rf
  xs : X s = some o
  vsR : ∀ r ∈ vs, (R r).isSome
  isX : ∀ i ∈ is, Ok X i
  okO : Ok R o.old
  okN : Ok R o.new
  at0 : 0 ≤ o.at_
  at1 : o.at_ < vs.length
  fl0 : 0 ≤ o.fld
  fl1 : o.fld < (rg R (vs.getD o.at_.toNat 0)).fields.length
  fbe : (rg R (vs.getD o.at_.toNat 0)).fb = fb
section
variable {w w' w0 : World} {B s r : Nat} {g : Option Nat} {ks ks' : List Int} {R R' : Nat → Option RecO} {X X' : Nat → Option ScxO} {o : ScxO} {vs : List Nat} {is : List (Option Nat)} {fs : List Bool} {bv bi bf cv ci cf fb : Nat} {rv ri rf : List Value}
theorem HAtstring.size (h : HAtstring B g s fb vs is fs w0 bv bi bf cv ci cf rv ri rf w ks R X o) : B ≤ w.heap.size := Nat.le_trans h.g0 h.st.fr.size
theorem HAtstring.vat (h : HAtstring B g s fb vs is fs w0 bv bi bf cv ci cf rv ri rf w ks R X o) : vs.getD o.at_.toNat 0 ∈ vs := getD_mem (by have := h.at0; have := h.at1; omega) 0
theorem HAtstring.blkS (h : HAtstring B g s fb vs is fs w0 bv bi bf cv ci cf rv ri rf w ks R X o) {k : Nat} (hk : HelpSstring vs fb s k) : ∃ T ys, Blk w k T ys ∧ T ≠ THRstring ∧ T ≠ THXstring ∧ T ≠ 4 := by
  rcases hk with hk | rfl | rfl
  · exact ⟨_, _, (h.rep.recs _ _ (rg_some (h.vsR _ hk))).1, by decide, by decide, by decide⟩
  · have := h.rep.fld _ _ (rg_some (h.vsR _ h.vat))
    rw [h.fbe] at this
    exact ⟨_, _, this, by decide, by decide, by decide⟩
  · exact ⟨_, _, h.rep.scx _ _ h.xs, by decide, by decide, by decide⟩
theorem Rowsstring.fr (h : Rowsstring w o vs is fs bv bi bf cv ci cf rv ri rf) (hg : GAtI w B g ks) {S : Nat → Prop} (hs : StepI B g w w' ks' S) (hS : ∀ k, S k → ∃ T ys, Blk w k T ys ∧ T ≠ THRstring ∧ T ≠ THXstring ∧ T ≠ 4) : Rowsstring w' o vs is fs bv bi bf cv ci cf rv ri rf :=
  ⟨h.ev, h.ei, h.ef, hs.blk hg h.hv (by decide) (by decide) (fun hk => by obtain ⟨T, ys, hb, h1, _⟩ := hS _ hk; exact h1 (hb.inj h.hv).1),
    hs.blk hg h.hi (by decide) (by decide) (fun hk => by obtain ⟨T, ys, hb, _, h1, _⟩ := hS _ hk; exact h1 (hb.inj h.hi).1),
    hs.blk hg h.hf (by decide) (by decide) (fun hk => by obtain ⟨T, ys, hb, _, _, h1⟩ := hS _ hk; exact h1 (hb.inj h.hf).1), h.li, h.lf⟩
theorem Rowsstring.cong {o' : ScxO} (h : Rowsstring w o vs is fs bv bi bf cv ci cf rv ri rf) (h1 : o'.sv = o.sv) (h2 : o'.si = o.si) (h3 : o'.sf = o.sf) : Rowsstring w o' vs is fs bv bi bf cv ci cf rv ri rf :=
  ⟨h1.trans h.ev, h2.trans h.ei, h3.trans h.ef, h.hv, h.hi, h.hf, h.li, h.lf⟩
/-- Nothing but the gate has turned. -/
theorem HAtstring.same (h : HAtstring B g s fb vs is fs w0 bv bi bf cv ci cf rv ri rf w ks R X o) (hs : StepI B g w w' ks' (fun _ => False)) (hr : Repstring w' R X) : HAtstring B g s fb vs is fs w0 bv bi bf cv ci cf rv ri rf w' ks' R X o :=
  ⟨h.g0, hs.gate, h.st.trans hs (fun _ _ hk => hk.elim), hr, h.rows.fr h.g1 hs (fun _ hk => hk.elim), h.xs, h.vsR, h.isX, h.okO, h.okN, h.at0, h.at1, h.fl0, h.fl1, h.fbe⟩
/-- One of the records has turned, but for its fields. -/
theorem HAtstring.turnR (h : HAtstring B g s fb vs is fs w0 bv bi bf cv ci cf rv ri rf w ks R X o) (hm : r ∈ vs) (hs : StepI B g w w' ks' (fun k => k = r)) {q : RecO} (hr : Repstring w' (upd R r q) X) (h1 : q.fb = (rg R r).fb) (h2 : q.fields = (rg R r).fields) :
    HAtstring B g s fb vs is fs w0 bv bi bf cv ci cf rv ri rf w' ks' (upd R r q) X o :=
  ⟨h.g0, hs.gate, h.st.trans hs (fun k _ hk => .inl (hk ▸ hm)), hr, h.rows.fr h.g1 hs (fun k hk => h.blkS (.inl (hk ▸ hm))), h.xs, fun b hb => upd_isSome _ (h.vsR b hb), h.isX, h.okO.upd r q, h.okN.upd r q, h.at0, h.at1, h.fl0,
    by rw [rg_upd]; split
       · rw [h2, ← ‹_ = r›]; exact h.fl1
       · exact h.fl1,
    by rw [rg_upd]; split
       · rw [h1, ← ‹_ = r›]; exact h.fbe
       · exact h.fbe⟩
/-- The SCX-record has turned, but for what never changes. -/
theorem HAtstring.turnX (h : HAtstring B g s fb vs is fs w0 bv bi bf cv ci cf rv ri rf w ks R X o) (hs : StepI B g w w' ks' (fun k => k = s)) {q : ScxO} (hr : Repstring w' R (upd X s q)) (h1 : q.sv = o.sv) (h2 : q.si = o.si) (h3 : q.sf = o.sf) (h4 : q.at_ = o.at_) (h5 : q.fld = o.fld) (h6 : q.old = o.old) (h7 : q.new = o.new) :
    HAtstring B g s fb vs is fs w0 bv bi bf cv ci cf rv ri rf w' ks' R (upd X s q) q :=
  ⟨h.g0, hs.gate, h.st.trans hs (fun k _ hk => .inr (.inr hk)), hr, (h.rows.cong h1 h2 h3).fr h.g1 hs (fun k hk => h.blkS (.inr (.inr hk))), upd_self _ _ _, h.vsR, fun i hi => (h.isX i hi).upd s q, h6 ▸ h.okO, h7 ▸ h.okN, h4 ▸ h.at0, h4 ▸ h.at1, h5 ▸ h.fl0, h4 ▸ h5 ▸ h.fl1, h4 ▸ h.fbe⟩
theorem HAtstring.cv0 (h : HAtstring B g s fb vs is fs w0 bv bi bf cv ci cf rv ri rf w ks R X o) : w.cell? ⟨s, 0, none⟩ = some (.slice (some ⟨bv, 0, none⟩) vs.length cv) := by rw [(h.rep.scx _ _ h.xs).cell, ← h.rows.ev]; rfl
theorem HAtstring.ci0 (h : HAtstring B g s fb vs is fs w0 bv bi bf cv ci cf rv ri rf w ks R X o) : w.cell? ⟨s, 1, none⟩ = some (.slice (some ⟨bi, 0, none⟩) vs.length ci) := by rw [(h.rep.scx _ _ h.xs).cell, ← h.rows.ei]; rfl
theorem HAtstring.cf0 (h : HAtstring B g s fb vs is fs w0 bv bi bf cv ci cf rv ri rf w ks R X o) : w.cell? ⟨s, 2, none⟩ = some (.slice (some ⟨bf, 0, none⟩) vs.length cf) := by rw [(h.rep.scx _ _ h.xs).cell, ← h.rows.ef]; rfl
theorem HAtstring.c3 (h : HAtstring B g s fb vs is fs w0 bv bi bf cv ci cf rv ri rf w ks R X o) : w.cell? ⟨s, 3, none⟩ = some (.int .i64 o.at_) := by rw [(h.rep.scx _ _ h.xs).cell]; rfl
theorem HAtstring.c4 (h : HAtstring B g s fb vs is fs w0 bv bi bf cv ci cf rv ri rf w ks R X o) : w.cell? ⟨s, 4, none⟩ = some (.int .i64 o.fld) := by rw [(h.rep.scx _ _ h.xs).cell]; rfl
theorem HAtstring.c5 (h : HAtstring B g s fb vs is fs w0 bv bi bf cv ci cf rv ri rf w ks R X o) : w.cell? ⟨s, 5, none⟩ = some (pv o.old) := by rw [(h.rep.scx _ _ h.xs).cell]; rfl
theorem HAtstring.c6 (h : HAtstring B g s fb vs is fs w0 bv bi bf cv ci cf rv ri rf w ks R X o) : w.cell? ⟨s, 6, none⟩ = some (pv o.new) := by rw [(h.rep.scx _ _ h.xs).cell]; rfl
theorem HAtstring.vj (h : HAtstring B g s fb vs is fs w0 bv bi bf cv ci cf rv ri rf w ks R X o) {j : Nat} (hj : j < vs.length) : w.cell? ⟨bv, j, none⟩ = some (.pointer (some ⟨vs[j], 0, none⟩)) := by
  rw [h.rows.hv.cell, List.getElem?_append_left (by simpa using hj)]; simp [List.getElem?_eq_getElem hj, hd]
theorem HAtstring.ij (h : HAtstring B g s fb vs is fs w0 bv bi bf cv ci cf rv ri rf w ks R X o) {j : Nat} (hj : j < is.length) : w.cell? ⟨bi, j, none⟩ = some (pv is[j]) := by
  rw [h.rows.hi.cell, List.getElem?_append_left (by simpa using hj)]; simp [List.getElem?_eq_getElem hj]
theorem HAtstring.fj (h : HAtstring B g s fb vs is fs w0 bv bi bf cv ci cf rv ri rf w ks R X o) {j : Nat} (hj : j < fs.length) : w.cell? ⟨bf, j, none⟩ = some (.bool fs[j]) := by
  rw [h.rows.hf.cell, List.getElem?_append_left (by simpa using hj)]; simp [List.getElem?_eq_getElem hj]
/-- Freeze, where it goes through; where it doesn't. -/
theorem HAtstring.freeze_yes (h : HAtstring B g s fb vs is fs w0 bv bi bf cv ci cf rv ri rf w ks R X o) (hl : ks.length ≤ 1000000000) (hm : r ∈ vs) {i : Option Nat} (hi : i ∈ is) (he : (rg R r).info = i) :
    Calls Tryz.prog 34 #[.pointer (some ⟨r, 0, none⟩), gvI g, pv i, .pointer (some ⟨s, 0, none⟩)] w fun e w' => e = .returned (.bool true) ∧ HAtstring B g s fb vs is fs w0 bv bi bf cv ci cf rv ri rf w' (ks ++ [5]) (upd R r { rg R r with info := some s }) X o := by
  refine (freeze_string B g ks R X w h.rep h.g1 h.size hl r _ (rg_some (h.vsR r hm)) i (some s) (h.isX i hi) (Ok.of h.xs)).mono ?_
  rintro e w1 ⟨rfl, hs, hr⟩
  rw [if_pos he] at hr
  exact ⟨by rw [decide_eq_true he], h.turnR hm hs hr rfl rfl⟩
theorem HAtstring.freeze_no (h : HAtstring B g s fb vs is fs w0 bv bi bf cv ci cf rv ri rf w ks R X o) (hl : ks.length ≤ 1000000000) (hm : r ∈ vs) {i : Option Nat} (hi : i ∈ is) (he : ¬ (rg R r).info = i) :
    Calls Tryz.prog 34 #[.pointer (some ⟨r, 0, none⟩), gvI g, pv i, .pointer (some ⟨s, 0, none⟩)] w fun e w' => e = .returned (.bool false) ∧ HAtstring B g s fb vs is fs w0 bv bi bf cv ci cf rv ri rf w' (ks ++ [5]) R X o := by
  have ho := rg_some (h.vsR r hm)
  refine (freeze_string B g ks R X w h.rep h.g1 h.size hl r _ ho i (some s) (h.isX i hi) (Ok.of h.xs)).mono ?_
  rintro e w1 ⟨rfl, hs, hr⟩
  rw [if_neg he] at hr
  have := h.turnR hm hs hr rfl rfl
  rw [show ({ rg R r with info := (rg R r).info } : RecO) = rg R r from rfl, upd_same ho] at this
  exact ⟨by rw [decide_eq_false he], this⟩
theorem HAtstring.info_ (h : HAtstring B g s fb vs is fs w0 bv bi bf cv ci cf rv ri rf w ks R X o) (hl : ks.length ≤ 1000000000) (hm : r ∈ vs) :
    Calls Tryz.prog 9 #[.pointer (some ⟨r, 0, none⟩), gvI g] w fun e w' => e = .returned (pv (rg R r).info) ∧ HAtstring B g s fb vs is fs w0 bv bi bf cv ci cf rv ri rf w' (ks ++ [1]) R X o ∧ (binOp .eql THXstring (pv (rg R r).info) (.pointer (some ⟨s, 0, none⟩))).run Tryz.prog w' = .ok (.bool (decide ((rg R r).info = some s))) w' := by
  have ho := rg_some (h.vsR r hm)
  refine (info_string B g ks R X w h.rep h.g1 h.size hl r _ ho).mono ?_
  rintro e w1 ⟨rfl, hs, hr⟩
  obtain ⟨i, hi, hsz⟩ := hsz_string
  have kn : ∀ {x : Option Nat}, Ok X x → Known w1 x := fun {x} hx b e => by
    obtain ⟨q, hq⟩ := Option.isSome_iff_exists.1 (hx b e)
    exact ⟨_, _, hr.scx _ _ hq⟩
  exact ⟨rfl, h.same hs hr, run_eql_ptr (P := Tryz.prog) (w := w1) (x := (rg R r).info) (y := some s) Tryz.underlying40 hi hsz (kn (hr.okInfo ho)) (kn (Ok.of h.xs))⟩
end
section
variable {R R1 R2 : Nat → Option RecO} {X : Nat → Option ScxO} {s : Nat} {o : ScxO} {vs : List Nat} {is : List (Option Nat)} {fs : List Bool} {kk mk : List Int}
end

set_option maxHeartbeats 4000000 in
set_option maxRecDepth 100000 in
theorem help_string (B : Nat) (g : Option Nat) (ks : List Int) (R : Nat → Option RecO) (X : Nat → Option ScxO) (w : World) (s fb : Nat) (o : ScxO) (vs : List Nat) (is : List (Option Nat)) (fs : List Bool) (bv bi bf cv ci cf : Nat) (rv ri rf : List Value)
    (h : HAtstring B g s fb vs is fs w bv bi bf cv ci cf rv ri rf w ks R X o) (hl : ks.length ≤ 900000000) (hn : vs.length ≤ 1000000) :
    Calls Tryz.prog 12 #[gvI g, .pointer (some ⟨s, 0, none⟩)] w fun e w' => e = .returned (.bool (helpR R X s o vs is fs).1) ∧ StepI B g w w' (ks ++ (helpR R X s o vs is fs).2.1) (HelpSstring vs fb s) ∧ Repstring w' (helpR R X s o vs is fs).2.2.1 (helpR R X s o vs is fs).2.2.2 := by
  refine calls_hide fun Q HQ => ?_
  have HQ' := Lib.hid HQ
  have HH := Lib.hid h
  have HLI := Lib.hid h.rows.li
  have HLF := Lib.hid h.rows.lf
  clear HQ h
  go_enter Tryz.func12, Tryz.ntmps12
  have hc0 := HH.out.cv0
  go_wp2
  clear hc0
  go_loopw [14] (fun k wr => ∃ (j : Nat) (kp : List Int) (R1 : Nat → Option RecO), j ≤ vs.length ∧ k = .int .i64 j ∧ kp.length ≤ 2 * j ∧ FrzTo s (vs.zip is) R j kp R1 ∧ HAtstring B g s fb vs is fs w bv bi bf cv ci cf rv ri rf wr (ks ++ kp) R1 X o) (fun k _ => vs.length - (intOf k).toNat)
  case atStart => exact ⟨0, [], R, Nat.zero_le _, rfl, by simp, FrzTo.zero _ _ _, by simpa using HH.out⟩
  case round =>
    clear HH
    obtain ⟨j, kp, R1, hj, rfl, hkp, hF, hH⟩ := hrel
    have HF := Lib.hid hF
    have HH := Lib.hid hH
    have HK := Lib.hid (show (ks ++ kp).length ≤ 950000000 by simp; omega)
    clear hF hH
    by_cases hlt : j < vs.length
    · have hlt2 : j < is.length := by rw [HLI.out]; exact hlt
      have hcv := HH.out.vj hlt
      have hci := HH.out.ij hlt2
      have hc1 := HH.out.ci0
      have HM := Lib.hid (List.getElem_mem hlt)
      have HMI := Lib.hid (List.getElem_mem hlt2)
      have HY := Lib.hid (HF.out.yes hlt hlt2)
      have HO := Lib.hid (HF.out.own hlt hlt2)
      have HN := Lib.hid (HF.out.fail hlt hlt2)
      generalize vs[j] = r at *
      generalize is[j] = i at *
      clear hlt2 HF
      by_cases he : (rg R1 r).info = i
      · have HC := Lib.hid (HH.out.freeze_yes (by have := HK.out; omega) HM.out HMI.out he)
        have HY2 := Lib.hid (HY.out he)
        clear he HN HO HY HH HQ'
        go_wp2_with fail
        refine HC.out.mono ?_
        rintro e w1 ⟨rfl, hH⟩
        have HH := Lib.hid hH
        clear hH HC hcv hci hc1
        go_wp2
        go_roundw
        case rel => exact ⟨j + 1, _, _, by omega, by go_num, by simp; omega, HY2.out, by simpa using HH.out⟩
        case measure => simp [intOf]; omega
      · have HC := Lib.hid (HH.out.freeze_no (by have := HK.out; omega) HM.out HMI.out he)
        clear HY HH
        go_wp2_with fail
        refine HC.out.mono ?_
        rintro e w1 ⟨rfl, hH⟩
        have HI := Lib.hid (hH.info_ (by have := HK.out; simp at this ⊢; omega) HM.out)
        clear hH HC hcv hci hc1 HM HMI
        have HO2 := Lib.hid (HO.out he)
        have HN2 := Lib.hid (HN.out he)
        clear he HO HN
        go_wp2_with fail
        refine HI.out.mono ?_
        rintro e w2 ⟨rfl, hH, hcmp⟩
        have HH := Lib.hid hH
        clear hH HI
        by_cases hs : (rg R1 r).info = some s
        · rw [decide_eq_true hs] at hcmp
          have HO3 := Lib.hid (HO2.out hs)
          clear hs HO2 HN2 HQ'
          generalize (rg R1 r).info = q at *
          go_wp2
          go_roundw
          case rel => exact ⟨j + 1, _, _, by omega, by go_num, by simp; omega, HO3.out, by simpa using HH.out⟩
          case measure => simp [intOf]; omega
        · rw [decide_eq_false hs] at hcmp
          have HN3 := Lib.hid (helpR_fail (X := X) (o := o) (fs := fs) (HN2.out hs))
          clear hs HO2 HN2
          generalize (rg R1 r).info = q at *
          have HA := Lib.hid (allfrozen_string B g _ R1 X w2 HH.out.rep HH.out.g1 HH.out.size (by have := HK.out; simp at this ⊢; omega) s o HH.out.xs)
          have hfz : o.frozen = true ∨ o.frozen = false := by cases o.frozen <;> simp
          rcases hfz with hfz | hfz
          · rw [hfz] at HA
            rw [if_pos hfz] at HN3
            rw [HN3.out] at HQ'
            clear hfz HN3
            go_wp2_with fail
            refine HA.out.mono ?_
            rintro e w3 ⟨rfl, hst, hrep⟩
            have HZ := Lib.hid (HQ'.out _ w3 ⟨rfl, by have := (HH.out.same hst hrep).st; simpa using this, hrep⟩)
            clear hst hrep HA HH HQ' hcmp
            go_wp2
            exact HZ.out
          · rw [hfz] at HA
            rw [if_neg (by simp [hfz])] at HN3
            rw [HN3.out] at HQ'
            clear hfz HN3
            go_wp2_with fail
            refine HA.out.mono ?_
            rintro e w3 ⟨rfl, hst, hrep⟩
            have HH2 := Lib.hid (HH.out.same hst hrep)
            have HA2 := Lib.hid (abort_string B g _ R1 X w3 HH2.out.rep HH2.out.g1 HH2.out.size (by have := HK.out; simp at this ⊢; omega) s o HH2.out.xs)
            clear hst hrep HA HH hcmp
            go_wp2_with fail
            refine HA2.out.mono ?_
            rintro e w4 ⟨rfl, hst, hrep⟩
            have HZ := Lib.hid (HQ'.out _ w4 ⟨rfl, by have := (HH2.out.turnX hst hrep rfl rfl rfl rfl rfl rfl rfl).st; simpa using this, hrep⟩)
            clear hst hrep HA2 HH2 HQ'
            go_wp2
            exact HZ.out
    · obtain rfl : j = vs.length := by omega
      have HD := Lib.hid HF.out.done
      have HA := Lib.hid (setallfrozen_string B g _ R1 X wr HH.out.rep HH.out.g1 HH.out.size (by have := HK.out; omega) s o HH.out.xs)
      clear HF hlt hj
      go_wp2_with fail
      refine HA.out.mono ?_
      rintro e w1 ⟨rfl, hst, hrep⟩
      have HH1 := Lib.hid (HH.out.turnX hst hrep rfl rfl rfl rfl rfl rfl rfl)
      clear hst hrep HA HH
      have hc0 := HH1.out.cv0
      go_wp2
      clear hc0
      go_loopw [52] (fun k wr => ∃ (j : Nat) (mp : List Int) (R2 : Nat → Option RecO), j ≤ vs.length ∧ k = .int .i64 j ∧ mp.length ≤ j ∧ MrkTo (vs.zip fs) R1 j mp R2 ∧ HAtstring B g s fb vs is fs w bv bi bf cv ci cf rv ri rf wr (ks ++ kp ++ [2] ++ mp) R2 (upd X s { o with frozen := true }) { o with frozen := true }) (fun k _ => vs.length - (intOf k).toNat)
      case atStart => exact ⟨0, [], R1, Nat.zero_le _, rfl, by simp, MrkTo.zero _ _, by simpa using HH1.out⟩
      case round =>
        clear HH1
        obtain ⟨j, mp, R2, hj, rfl, hmp, hF, hH⟩ := hrel
        have HF := Lib.hid hF
        have HH := Lib.hid hH
        have HK2 := Lib.hid (show (ks ++ kp ++ [2] ++ mp).length ≤ 960000000 by have := HK.out; simp at this ⊢; omega)
        clear hF hH
        by_cases hlt : j < vs.length
        · have hlt2 : j < fs.length := by rw [HLF.out]; exact hlt
          have hcv := HH.out.vj hlt
          have hci := HH.out.fj hlt2
          have hc1 := HH.out.cf0
          have HM := Lib.hid (List.getElem_mem hlt)
          have HY := Lib.hid (HF.out.yes hlt hlt2)
          have HN := Lib.hid (HF.out.no hlt hlt2)
          generalize vs[j] = r at *
          generalize fs[j] = f at *
          clear HF
          cases f with
          | true =>
            have HC := Lib.hid (mark_string B g _ R2 _ wr HH.out.rep HH.out.g1 HH.out.size (by have := HK2.out; omega) r _ (rg_some (HH.out.vsR r HM.out)))
            have HY2 := Lib.hid (HY.out rfl)
            clear HY HN HQ'
            go_wp2_with fail
            refine HC.out.mono ?_
            rintro e w2 ⟨rfl, hst, hrep⟩
            have HH2 := Lib.hid (HH.out.turnR HM.out hst hrep rfl rfl)
            clear hst hrep HC HH hcv hci hc1
            go_wp2
            go_roundw
            case rel => exact ⟨j + 1, _, _, by omega, by go_num, by simp; omega, HY2.out, by simpa using HH2.out⟩
            case measure => simp [intOf]; omega
          | false =>
            have HY2 := Lib.hid (HN.out rfl)
            clear HY HN HQ'
            go_wp2
            go_roundw
            case rel => exact ⟨j + 1, _, _, by omega, by go_num, by omega, HY2.out, HH.out⟩
            case measure => simp [intOf]; omega
        · obtain rfl : j = vs.length := by omega
          have HE := Lib.hid (helpR_ok (X := X) (o := o) HD.out HF.out.done)
          rw [HE.out] at HQ'
          clear HE HD HF
          have h3 := HH.out.c3
          have h4 := HH.out.c4
          have h5 := HH.out.c5
          have h6 := HH.out.c6
          have h0 := HH.out.cv0
          have a0 := HH.out.at0
          have a1 := HH.out.at1
          have hv := HH.out.vj (j := o.at_.toNat) (by simp only at a0 a1; omega)
          have HV := Lib.hid (show vs.getD o.at_.toNat 0 = vs[o.at_.toNat]'(by simp only at a0 a1; omega) by simp [List.getD_eq_getElem?_getD, List.getElem?_eq_getElem (show o.at_.toNat < vs.length by simp only at a0 a1; omega)])
          have HVM := Lib.hid HH.out.vat
          simp only at h3 h4 h5 h6 a0 a1 HVM
          rw [HV.out] at HVM HQ'
          have HFL := Lib.hid HH.out.fl1
          have HFB := Lib.hid HH.out.fbe
          simp only [HV.out] at HFL HFB
          generalize vs[o.at_.toNat]'(by omega) = r at *
          have HHd : Repstring wr.drew R2 (upd X s { o with frozen := true }) := HH.out.rep.fr (S := fun _ => False) (Fr.refl wr _).drew (fun _ _ _ => ⟨id, id⟩) (fun _ _ _ => id)
          have HSd : StepI B g wr wr.drew (ks ++ kp ++ [2] ++ mp) (fun _ => False) := HH.out.g1.fr (Fr.refl wr _).drew (fun _ _ => id)
          have HH2 := Lib.hid (HH.out.same HSd HHd)
          have HC := Lib.hid (swing_string B g _ R2 _ wr.drew HHd HH2.out.g1 HH2.out.size (by have := HK2.out; omega) r _ (rg_some (HH.out.vsR r HVM.out)) o.fld HH.out.fl0 HFL.out o.old o.new HH.out.okO HH.out.okN)
          have HS1 := Lib.hid (HH.out.fl0)
          clear HH HHd HSd hlt hj
          go_wp2_with fail
          refine wp_region_still_tail 23 (by kernel_rfl) (by kernel_rfl) ?_
          simp only [List.take_succ_cons, List.take_zero, List.drop_succ_cons, List.drop_zero]
          iterate 23 still_step
          refine wpStill_nil ?_
          change wpList _ _ _ _ _ wr.drew
          go_wp2_with fail
          refine HC.out.mono ?_
          rintro e w2 ⟨rfl, hst, hrep⟩
          have HST := Lib.hid (HH2.out.st.trans hst (fun k _ hk => .inr (.inl (hk.trans HFB.out))))
          have HR2 := Lib.hid hrep
          clear hst hrep HC h0 h3 h4 h5 h6 hv
          have HC2 := Lib.hid (commit_string B g _ _ _ w2 HR2.out HST.out.gate (Nat.le_trans HH2.out.g0 HST.out.fr.size) (by have := HK2.out; simp at this ⊢; omega) s _ (upd_self _ _ _))
          go_wp2_with fail
          refine HC2.out.mono ?_
          rintro e w3 ⟨rfl, hst, hrep⟩
          rw [upd_upd] at hrep
          have HZ := Lib.hid (HQ'.out _ w3 ⟨rfl, by have := HST.out.trans hst (fun k _ hk => .inr (.inr hk)); simpa using this, hrep⟩)
          clear hst hrep HC2 HR2 HST HH2 HQ'
          go_wp2
          exact HZ.out
end Go.Proofs.YtphhdmopfmelbaaGreat

/- larchlaw13.HelpCalls: what Help wants of its SCX-record, and what stands behind it. No walk. -/
namespace Go.Proofs.YtphhdmopfmelbaaGreat
open Go.RowKit Go.Proofs.YtphhdmopfmelbaaGreatW.PrintWords
set_option linter.unusedVariables false
set_option linter.unusedSimpArgs false

/-- After j records of V. -/
def PlanInvS (w0 : World) (rs fs : List Nat) (V : List Int) (j : Nat) (v i : Value) (wr : World) : Prop :=
  Below w0.heap.size w0 wr ∧ wr.ownsRow w0.heap.size TSR 1 v j ((V.map fun n => pv rs[n.toNat]?).take j) ∧ wr.ownsRow w0.heap.size TSX 1 i j ((V.map fun n => pv fs[n.toNat]?).take j)
/-- What the SCX-record holds of its plan. -/
structure PlanMemS (w : World) (B : Nat) (o : ScxO) (rs fs : List Nat) (p : PlanD) : Prop where
  ov : w.ownsRow B TSR 1 o.sv p.V.length (p.V.map fun n => pv rs[n.toNat]?)
  oi : w.ownsRow B TSX 1 o.si p.V.length (p.V.map fun n => pv fs[n.toNat]?)
  ob : w.ownsRow B TSB 1 o.sf p.fin.length (p.fin.map Value.bool)
  e1 : o.at_ = p.at_
  e2 : o.fld = p.fld
  e3 : o.old = rp rs p.old
  e4 : o.new = rp rs p.new
section
variable {w w' w1 : World} {B B' s fb bc bs : Nat} {cs : List Value} {g : Option Nat} {ks : List Int} {R R' : Nat → Option RecO} {X X' : Nat → Option ScxO} {rs fs : List Nat} {v : Value} {F F' : Nat → List (Option Nat)} {I I' : Nat → Option Nat} {M M' : Nat → Bool} {P P' : Nat → ScxO → Prop} {o o' : ScxO} {d : WD} {p : PlanD} {vs : List Nat} {is : List (Option Nat)} {ff : List Bool} {bv bi bf cv ci cf : Nat} {rv ri rf : List Value}
theorem PlanMemS.types (h : PlanMemS w B o rs fs p) {S : Nat → Prop} (hf : Fr w w' S) (hS : ∀ k, S k → ∃ T ys, Blk w k T ys ∧ T ≠ TSR ∧ T ≠ TSX ∧ T ≠ TSB) : PlanMemS w' B o rs fs p :=
  ⟨owns_fr h.ov hf (fun k hk hs => by
      obtain ⟨T, ys, hb, h1, h2, h3⟩ := hS k hs
      obtain ⟨c, hc⟩ := owns_typed h.ov k hk; exact h1 (hb.inj hc).1),
    owns_fr h.oi hf (fun k hk hs => by
      obtain ⟨T, ys, hb, h1, h2, h3⟩ := hS k hs
      obtain ⟨c, hc⟩ := owns_typed h.oi k hk; exact h2 (hb.inj hc).1),
    owns_fr h.ob hf (fun k hk hs => by
      obtain ⟨T, ys, hb, h1, h2, h3⟩ := hS k hs
      obtain ⟨c, hc⟩ := owns_typed h.ob k hk; exact h3 (hb.inj hc).1), h.e1, h.e2, h.e3, h.e4⟩
theorem PlanMemS.below (h : PlanMemS w B o rs fs p) (hb : Below w.heap.size w w') : PlanMemS w' B o rs fs p := h.types (S := fun _ => False) (Fr.of_below0 hb) (fun _ hk => hk.elim)
theorem PlanMemS.cong (h : PlanMemS w B o rs fs p) (h1 : o'.sv = o.sv) (h2 : o'.si = o.si) (h3 : o'.sf = o.sf) (h4 : o'.at_ = o.at_) (h5 : o'.fld = o.fld) (h6 : o'.old = o.old) (h7 : o'.new = o.new) : PlanMemS w B o' rs fs p :=
  ⟨h1 ▸ h.ov, h2 ▸ h.oi, h3 ▸ h.ob, h4 ▸ h.e1, h5 ▸ h.e2, h6 ▸ h.e3, h7 ▸ h.e4⟩
/-- What a gate's step or a help has turned, by types. -/
theorem step_types (hg : GAtI w B' g []) (hh : HAtstring B' g s fb vs is ff w bv bi bf cv ci cf rv ri rf w [] R X o) {k : Nat} (hk : (GFoot w g k ∨ HelpSstring vs fb s k)) : ∃ T ys, Blk w k T ys ∧ T ≠ TSR ∧ T ≠ TSX ∧ T ≠ TSB ∧ T ≠ TSS ∧ T ≠ TCA13 ∧ T ≠ 38 := by
  rcases hk with hk | hk | rfl | rfl
  · obtain ⟨_, _, T, c, hT, hb⟩ := hg.foot hk
    exact ⟨T, c, hb, by rcases hT with rfl | rfl <;> decide⟩
  · exact ⟨_, _, (hh.rep.recs _ _ (rg_some (hh.vsR _ hk))).1, by decide⟩
  · have := hh.rep.fld _ _ (rg_some (hh.vsR _ hh.vat))
    rw [hh.fbe] at this
    exact ⟨_, _, this, by decide⟩
  · exact ⟨_, _, hh.rep.scx _ _ hh.xs, by decide⟩
theorem helpAtS (h : StageS w B R X rs fs [s] F I M P) (ho : X s = some o) (hm : PlanMemS w B o rs fs p) (hrl : rs.length = d.fields.length) (hf : p.Fits d) (hFl : ∀ i, i < rs.length → (F i).length = (d.fields.getD i []).length)
    (hg : GAtI w B' g []) (hB' : B' ≤ w.heap.size) :
    ∃ fb bv bi bf cv ci cf rv ri rf, HAtstring B' g s fb (vsH rs p) (isH fs p) p.fin w bv bi bf cv ci cf rv ri rf w [] R X o ∧ ∀ k, HelpSstring (vsH rs p) fb s k → B ≤ k := by
  have hV : ∀ n ∈ p.V, 0 ≤ n ∧ n < rs.length := fun n hn => by rw [hrl]; exact hf.hV n hn
  have hne : ∀ {u : Value} {e n : Nat} {us : List Value}, w.ownsRow B e 1 u n us → 0 < n → ¬ u = .slice none 0 0 := fun ho hn e => by
    rcases ho.2 with ⟨_, h0⟩ | ⟨g, cap, cur, hv, _⟩
    · omega
    · rw [e] at hv; simp at hv
  obtain ⟨bv, cv, rv, ev, _, _, hbv⟩ := owns_blk hm.ov (hne hm.ov hf.v0)
  obtain ⟨bi, ci, ri, ei, _, _, hbi⟩ := owns_blk hm.oi (hne hm.oi hf.v0)
  obtain ⟨bf, cf, rf, ef, _, _, hbf⟩ := owns_blk hm.ob (hne hm.ob (by rw [hf.v2]; exact hf.v0))
  have hget : ∀ n ∈ p.V, rs[n.toNat]? = some (rs.getD n.toNat 0) := fun n hn => by
    have := hV n hn
    simp [List.getD_eq_getElem?_getD, List.getElem?_eq_getElem (show n.toNat < rs.length by omega)]
  have hR : ∀ r ∈ vsH rs p, (R r).isSome := fun r hr => by
    obtain ⟨n, hn, rfl⟩ := List.mem_map.1 hr
    obtain ⟨fb, h1, _⟩ := h.r _ _ (hget n hn)
    rw [h1]; rfl
  have hat : p.at_.toNat < p.V.length := by have := hf.a.1; have := hf.a.2; omega
  have hvr : (vsH rs p).getD o.at_.toNat 0 = rs.getD (p.V.getD p.at_.toNat 0).toNat 0 := by
    rw [hm.e1]
    simp [List.getD_eq_getElem?_getD, List.getElem?_eq_getElem hat]
  have hva := hV _ (getD_mem hat 0)
  obtain ⟨fb, hfb, hfbl⟩ := h.r _ _ (hget _ (getD_mem hat 0))
  refine ⟨fb, bv, bi, bf, cv, ci, cf, rv, ri, rf, ⟨hB', hg, Step.refl hg _, h.rep, ⟨by simpa using ev, by simpa using ei, by rw [ef, hf.v2]; simp, ?_, ?_, hbf, by simp, by simp [hf.v2]⟩, ho, hR, fun i hi => ?_, by rw [hm.e3]; exact h.okR _, by rw [hm.e4]; exact h.okR _, by rw [hm.e1]; exact hf.a.1, by rw [hm.e1]; simpa using hf.a.2, by rw [hm.e2]; exact hf.f.1, ?_, ?_⟩, fun k hk => ?_⟩
  · have : (p.V.map fun n => pv rs[n.toNat]?) = (vsH rs p).map fun b => pv (some b) := by
      rw [List.map_map]
      exact List.map_congr_left fun n hn => by rw [hget n hn]; rfl
    rw [← this]; exact hbv
  · have : (p.V.map fun n => pv fs[n.toNat]?) = (isH fs p).map pv := by rw [List.map_map]; rfl
    rw [← this]; exact hbi
  · obtain ⟨n, hn, rfl⟩ := List.mem_map.1 hi
    exact h.okF _
  · rw [hvr, rg_of hfb, hm.e2]
    show p.fld < ((F _).length : Int)
    rw [hFl _ (by omega)]
    exact hf.f.2
  · rw [hvr, rg_of hfb]
  · rcases hk with hk | rfl | rfl
    · obtain ⟨n, hn, rfl⟩ := List.mem_map.1 hk
      exact h.lo _ (List.mem_append_left _ (List.mem_of_getElem? (hget n hn)))
    · exact hfbl
    · exact h.lo _ (by simp)
/-- Behind a help: what stands in memory, the rows, the boxes. -/
theorem LInv.helped (h : LInv w bc bs cs w1 R X rs rs fs [s] v F I M P) (hg : GAtI w1 B' g []) (hh : HAtstring B' g s fb vs is ff w1 bv bi bf cv ci cf rv ri rf w1 [] R X o) (hst : StepI B' g w1 w' ks (HelpSstring vs fb s)) (hB : w.heap.size ≤ B') (hge : ∀ k, HelpSstring vs fb s k → w.heap.size ≤ k) (hs : StageS w' w.heap.size R' X' rs fs [s] F' I' M' P') :
    LInv w bc bs cs w' R' X' rs rs fs [s] v F' I' M' P' := by
  have ht := fun k hk => step_types hg hh (k := k) hk
  refine ⟨hs, owns_fr h.own hst.fr (fun k hk e => ?_), hst.fr.blk h.cell (fun e => ?_), hst.fr.blk h.box (fun e => ?_), h.below.trans (hst.fr.below h.below.size (fun k hk => ?_)), h.hb⟩
  · obtain ⟨T, ys, hb, h1, _⟩ := ht k e
    obtain ⟨c, hc⟩ := owns_typed h.own k hk
    exact h1 (hb.inj hc).1
  · obtain ⟨T, ys, hb, _, _, _, h1, _⟩ := ht _ e
    exact h1 (hb.inj h.cell).1
  · obtain ⟨T, ys, hb, _, _, _, _, h1, _⟩ := ht _ e
    exact h1 (hb.inj h.box).1
  · rcases hk with hk | hk
    · exact Nat.le_trans hB (hg.foot hk).1
    · exact hge k hk
theorem PlanMemS.helped (h : PlanMemS w1 B o rs fs p) (hg : GAtI w1 B' g []) (hh : HAtstring B' g s fb vs is ff w1 bv bi bf cv ci cf rv ri rf w1 [] R X o) (hst : StepI B' g w1 w' ks (HelpSstring vs fb s)) : PlanMemS w' B o rs fs p :=
  h.types hst.fr (fun k hk => by
    obtain ⟨T, ys, hb, h1, h2, h3, _⟩ := step_types hg hh hk
    exact ⟨T, ys, hb, h1, h2, h3⟩)
theorem plan_helped {b : Nat} {us : List Value} (h : Blk w1 b 38 us) (hg : GAtI w1 B' g []) (hh : HAtstring B' g s fb vs is ff w1 bv bi bf cv ci cf rv ri rf w1 [] R X o) (hst : StepI B' g w1 w' ks (HelpSstring vs fb s)) : Blk w' b 38 us :=
  hst.fr.blk h (fun e => by
    obtain ⟨T, ys, hb, _, _, _, _, _, h1⟩ := step_types hg hh e
    exact h1 (hb.inj h).1)
end
theorem helpR_frozen (R : Nat → Option RecO) (X : Nat → Option ScxO) (s : Nat) (o : ScxO) (vs : List Nat) (is : List (Option Nat)) (fs : List Bool) (h : o.frozen = true) : (helpR R X s o vs is fs).1 = true := by
  unfold helpR
  simp only [h, if_true]
  split <;> rfl
theorem helpR_state (R : Nat → Option RecO) (X : Nat → Option ScxO) (s : Nat) (o : ScxO) (vs : List Nat) (is : List (Option Nat)) (fs : List Bool) (h : o.frozen = true) (hs : o.state = 1) (hx : X s = some o) : ∃ o', (helpR R X s o vs is fs).2.2.2 s = some o' ∧ o'.state = 1 := by
  unfold helpR
  simp only [h, if_true]
  split
  · exact ⟨_, upd_self _ _ _, rfl⟩
  · exact ⟨o, hx, hs⟩
/-- fin behind q rounds. -/
def finU (p : PlanD) (i q : Nat) : Bool := ((p.V.zip p.fin).take q).any fun x => x.1 == (i : Int) && x.2
theorem finU_zero (p : PlanD) (i : Nat) : finU p i 0 = false := by simp [finU]
theorem finU_step (p : PlanD) (i q : Nat) (h1 : q < p.V.length) (h2 : q < p.fin.length) : finU p i (q + 1) = (finU p i q || (p.V[q] == (i : Int) && p.fin[q])) := by
  unfold finU
  have hq : q < (p.V.zip p.fin).length := by rw [List.length_zip]; omega
  rw [List.take_add_one, List.getElem?_eq_getElem hq, List.any_append]
  simp [List.getElem_zip]
theorem finU_all (p : PlanD) (i : Nat) (h : p.fin.length = p.V.length) : finU p i p.V.length = finH p i := by
  unfold finU finH
  rw [List.take_of_length_le (by rw [List.length_zip]; omega)]
theorem rowH_len (d : WD) (p : PlanD) (i : Nat) : (rowH d p i).length = (d.fields.getD i []).length := by
  unfold rowH; split <;> simp
theorem rowH_at (d : WD) (p : PlanD) (i k : Nat) (hk : k < (d.fields.getD i []).length) (hf : 0 ≤ p.fld) (h : p.V.getD p.at_.toNat 0 = (i : Int) ∧ p.fld = (k : Int) ∧ p.old = (d.fields.getD i [])[k]) : (rowH d p i).getD k 0 = p.new := by
  obtain ⟨h1, h2, h3⟩ := h
  have hfk : p.fld.toNat = k := by omega
  unfold rowH
  rw [if_pos ⟨h1, by rw [hfk, h3, List.getD_eq_getElem?_getD, List.getElem?_eq_getElem hk]; rfl⟩, hfk, getD_set _ _ _ _ _ hk, if_pos rfl]
theorem rowH_not (d : WD) (p : PlanD) (i k : Nat) (hk : k < (d.fields.getD i []).length) (hf : 0 ≤ p.fld) (hfl : p.V.getD p.at_.toNat 0 = (i : Int) → p.fld < (d.fields.getD i []).length) (h : ¬ (p.V.getD p.at_.toNat 0 = (i : Int) ∧ p.fld = (k : Int) ∧ p.old = (d.fields.getD i [])[k])) : (rowH d p i).getD k 0 = (d.fields.getD i [])[k] := by
  have hg : (d.fields.getD i []).getD k 0 = (d.fields.getD i [])[k] := by rw [List.getD_eq_getElem?_getD, List.getElem?_eq_getElem hk]; rfl
  unfold rowH
  split
  · rename_i h1
    have hl := hfl h1.1
    rw [getD_set _ _ _ _ _ (by omega)]
    by_cases e : k = p.fld.toNat
    · exfalso
      refine h ⟨h1.1, by omega, ?_⟩
      rw [← hg, ← h1.2, e]
    · rw [if_neg e]; exact hg
  · exact hg
theorem psz_srec : ∃ i, Tryz.prog.info? 80 = some i ∧ i.size ≠ 0 := by
  obtain ⟨i, hi, hz⟩ := Option.map_eq_some_iff.1 size_Recordstring
  exact ⟨i, hi, by simpa using hz⟩
theorem neq_srec {w : World} {y : Option Nat} (h : PtrTo 80 4 w y) : (binOp .neq 33 (pv y) (pv y)).run Tryz.prog w = .ok (.bool false) w := by
  obtain ⟨i, hi, hsz⟩ := psz_srec
  have e2 := run_neq_ptr (P := Tryz.prog) (w := w) (x := y) (y := y) Tryz.underlying33 hi hsz h.known h.known
  rwa [decide_eq_false (fun e => e rfl)] at e2
theorem eql_sscx {w : World} {x y : Option Nat} (hx : PtrTo 93 9 w x) (hy : PtrTo 93 9 w y) : (binOp .eql 40 (pv x) (pv y)).run Tryz.prog w = .ok (.bool (decide (x = y))) w := by
  obtain ⟨i, hi, hsz⟩ := hsz_string
  exact run_eql_ptr (P := Tryz.prog) (w := w) (x := x) (y := y) Tryz.underlying40 hi hsz hx.known hy.known
end Go.Proofs.YtphhdmopfmelbaaGreat
