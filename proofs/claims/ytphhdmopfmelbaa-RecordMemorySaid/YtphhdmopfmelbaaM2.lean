/- Joined texts: RecA RecSet RecMade Live RecDo RecDoA RecDoB RecOut RecWorldA RecWorldB. -/
import Derived.Test.YtphhdmopfmelbaaM1
import Derived.StillTailTactics
import Derived.Deep.RegionLaw
import Derived.Deep.RegionHeld3

/- record: the live world: record, info. -/
namespace Go.Proofs.Ytphhdmopfmelbaa
open Go.RowKit Go.Proofs.YtphhdmopfmelbaaW.PrintWords
set_option linter.unusedVariables false
set_option linter.unusedSimpArgs false

abbrev TLV : Nat := 162
/-- The info of a number: below 0 the record's own first one. -/
def ip (fs xs : List Nat) (i n : Int) : Option Nat := if n < 0 then fs[i.toNat]? else xs[n.toNat]?

set_option maxHeartbeats 400000 in
theorem live_record (w : World) (B m : Nat) (rs fs xs : List Nat) (v1 v2 v3 : Value) (h : MadeAt TLV w B m rs fs xs v1 v2 v3) (n : Int) (n0 : -1 ≤ n) (n1 : n < rs.length) :
    Calls Try.prog 89 #[.pointer (some ⟨m, 0, none⟩), .int .i64 n] w fun e w' => e = .returned (pv (rp rs n)) ∧ w = w' := by
  by_cases hn : n < 0
  · rw [show rp rs n = none by simp [rp, hn]]
    clear h
    go_enter Try.func89, Try.ntmps89
    go_wp2
    go_ret
    exact ⟨rfl, rfl⟩
  · rw [show rp rs n = rs[n.toNat]? by simp [rp, hn]]
    obtain ⟨b, c, hv, hc⟩ := owns_at h.o1 (j := n.toNat) (by omega)
    have hm : w.cell? ⟨m, 0, none⟩ = some v1 := by rw [h.blk.cell]; rfl
    rw [hv] at hm
    generalize rs[n.toNat]? = p at *
    clear h hv
    go_enter Try.func89, Try.ntmps89
    go_wp2
    go_ret
    exact ⟨rfl, rfl⟩
set_option maxHeartbeats 400000 in
theorem live_info (w : World) (B m : Nat) (rs fs xs : List Nat) (v1 v2 v3 : Value) (h : MadeAt TLV w B m rs fs xs v1 v2 v3) (i n : Int) (i0 : 0 ≤ i) (i1 : i < fs.length) (n0 : -1 ≤ n) (n1 : n < xs.length) :
    Calls Try.prog 91 #[.pointer (some ⟨m, 0, none⟩), .int .i64 i, .int .i64 n] w fun e w' => e = .returned (pv (ip fs xs i n)) ∧ w = w' := by
  by_cases hn : n < 0
  · rw [show ip fs xs i n = fs[i.toNat]? by simp [ip, hn]]
    obtain ⟨b, c, hv, hc⟩ := owns_at h.o2 (j := i.toNat) (by omega)
    have hm : w.cell? ⟨m, 1, none⟩ = some v2 := by rw [h.blk.cell]; rfl
    rw [hv] at hm
    generalize fs[i.toNat]? = p at *
    clear h hv
    go_enter Try.func91, Try.ntmps91
    go_wp2
    go_ret
    exact ⟨rfl, rfl⟩
  · rw [show ip fs xs i n = xs[n.toNat]? by simp [ip, hn]]
    obtain ⟨b, c, hv, hc⟩ := owns_at h.o3 (j := n.toNat) (by omega)
    have hm : w.cell? ⟨m, 2, none⟩ = some v3 := by rw [h.blk.cell]; rfl
    rw [hv] at hm
    generalize xs[n.toNat]? = p at *
    clear h hv
    go_enter Try.func91, Try.ntmps91
    go_wp2
    go_ret
    exact ⟨rfl, rfl⟩
end Go.Proofs.Ytphhdmopfmelbaa

/- record: what made stores, with a nil gate. -/
namespace Go.Proofs.Ytphhdmopfmelbaa
open Go.RowKit Go.Proofs.YtphhdmopfmelbaaW.PrintWords
set_option linter.unusedVariables false
set_option linter.unusedSimpArgs false

theorem gnil (w : World) : GAtI w 0 none [] := fun t e => by cases e
theorem upd_upd {α : Type} (R : Nat → Option α) (b : Nat) (o o' : α) : upd (upd R b o) b o' = upd R b o' := by
  funext k; unfold upd; split <;> rfl
section
variable (R : Nat → Option RecO) (X : Nat → Option ScxO) (w : World) (h : Repint w R X)
include h
theorem set_state (b : Nat) (o : ScxO) (ho : X b = some o) (n : Int) (n0 : 0 ≤ n) (n1 : n ≤ 1000) :
    Calls Try.prog 86 #[.pointer (some ⟨b, 7, none⟩), .nilIface, .int .i64 n] w fun e w' => e = .returned (.tuple #[]) ∧ Fr w w' (fun k => k = b) ∧ Repint w' R (upd X b { o with state := n }) := by
  refine (num_store 0 none [] b 7 152 _ w (gnil w) (Nat.zero_le _) (by simp) (h.scx b o ho) (by decide) (by decide) n n0 n1 (.int .i64 o.state) rfl).mono ?_
  rintro e w1 ⟨rfl, H, hb⟩
  exact ⟨rfl, H.fr0, h.setScx tys_int (gnil w) ho H hb⟩
theorem set_frozen (b : Nat) (o : ScxO) (ho : X b = some o) (f : Bool) :
    Calls Try.prog 87 #[.pointer (some ⟨b, 8, none⟩), .nilIface, .bool f] w fun e w' => e = .returned (.tuple #[]) ∧ Fr w w' (fun k => k = b) ∧ Repint w' R (upd X b { o with frozen := f }) := by
  cases f
  · refine (mark_store_false 0 none [] b 8 152 _ w (gnil w) (Nat.zero_le _) (by simp) (h.scx b o ho) (by decide) (by decide) (u32b o.frozen) rfl).mono ?_
    rintro e w1 ⟨rfl, H, hb⟩
    exact ⟨rfl, H.fr0, h.setScx tys_int (gnil w) ho H hb⟩
  · refine (mark_store_true 0 none [] b 8 152 _ w (gnil w) (Nat.zero_le _) (by simp) (h.scx b o ho) (by decide) (by decide) (u32b o.frozen) rfl).mono ?_
    rintro e w1 ⟨rfl, H, hb⟩
    exact ⟨rfl, H.fr0, h.setScx tys_int (gnil w) ho H hb⟩
theorem set_field (b : Nat) (o : RecO) (ho : R b = some o) (i : Nat) (hi : i < o.fields.length) (p : Option Nat) (hp : Ok R p) :
    Calls Try.prog 88 #[.pointer (some ⟨o.fb, i, none⟩), .nilIface, pv p] w fun e w' => e = .returned (.tuple #[]) ∧ Fr w w' (fun k => k = o.fb) ∧ Repint w' (upd R b { o with fields := o.fields.set i p }) X := by
  refine (cell_store_Recordint 0 none [] o.fb i 170 _ w (gnil w) (Nat.zero_le _) (by simp) (h.fld b o ho) (by decide) (by decide) p (pv o.fields[i]) (by simp [List.getElem?_eq_getElem hi]) (h.recPtr hp)).mono ?_
  rintro e w1 ⟨rfl, H, hb⟩
  refine ⟨rfl, H.fr0, h.setFields tys_int (gnil w) ho H (by simp) (by rw [List.map_set]; exact hb) (fun z hz => ?_)⟩
  rcases List.mem_or_eq_of_mem_set hz with hz | hz
  · exact h.kf b o ho z hz
  · exact hp z hz.symm
theorem set_info (b : Nat) (o : RecO) (ho : R b = some o) (p : Option Nat) (hp : Ok X p) :
    Calls Try.prog 90 #[.pointer (some ⟨b, 2, none⟩), .nilIface, pv p] w fun e w' => e = .returned (.tuple #[]) ∧ Fr w w' (fun k => k = b) ∧ Repint w' (upd R b { o with info := p }) X := by
  refine (cell_store_Scxint 0 none [] b 2 178 _ w (gnil w) (Nat.zero_le _) (by simp) (h.recs b o ho).1 (by decide) (by decide) p _ (h.at_ ho 1) (h.scxPtr hp)).mono ?_
  rintro e w1 ⟨rfl, H, hb⟩
  refine ⟨rfl, H.fr0, h.setRec tys_int (gnil w) ho H rfl rfl rfl ?_ hp⟩
  rw [show 2 = 1 + 1 from rfl, o.set_tail (h.recs b o ho).2] at hb
  exact hb
theorem set_mark (b : Nat) (o : RecO) (ho : R b = some o) (f : Bool) :
    Calls Try.prog 87 #[.pointer (some ⟨b, 3, none⟩), .nilIface, .bool f] w fun e w' => e = .returned (.tuple #[]) ∧ Fr w w' (fun k => k = b) ∧ Repint w' (upd R b { o with mark := f }) X := by
  have C : ∀ u, (hb : u = u32b f) → ∀ w', StepI 0 none w w' ([] ++ [2]) (fun k => k = b) → Blk w' b 178 (o.cells.set 3 u) → Fr w w' (fun k => k = b) ∧ Repint w' (upd R b { o with mark := f }) X := fun u hu w' H hb => by
    subst hu
    refine ⟨H.fr0, h.setRec tys_int (gnil w) ho H rfl rfl rfl ?_ (fun x e => h.ki b o ho x e)⟩
    rw [show 3 = 1 + 2 from rfl, o.set_tail (h.recs b o ho).2] at hb
    exact hb
  cases f
  · refine (mark_store_false 0 none [] b 3 178 _ w (gnil w) (Nat.zero_le _) (by simp) (h.recs b o ho).1 (by decide) (by decide) _ (h.at_ ho 2)).mono ?_
    rintro e w1 ⟨rfl, H, hb⟩
    exact ⟨rfl, C _ rfl _ H hb⟩
  · refine (mark_store_true 0 none [] b 3 178 _ w (gnil w) (Nat.zero_le _) (by simp) (h.recs b o ho).1 (by decide) (by decide) _ (h.at_ ho 2)).mono ?_
    rintro e w1 ⟨rfl, H, hb⟩
    exact ⟨rfl, C _ rfl _ H hb⟩
end
end Go.Proofs.Ytphhdmopfmelbaa

/- record: made. -/
namespace Go.Proofs.Ytphhdmopfmelbaa
open Go.RowKit Go.Proofs.YtphhdmopfmelbaaW.PrintWords
set_option linter.unusedVariables false
set_option linter.unusedSimpArgs false

theorem pinfo_rec : (Try.prog.info? 150).map (fun i => (i.zero, i.size, i.bytes)) = some (some (.pointer none), 1, 8) := by kernel_rfl
theorem pinfo_scx : (Try.prog.info? 81).map (fun i => (i.zero, i.size, i.bytes)) = some (some (.pointer none), 1, 8) := by kernel_rfl

abbrev TWD : Nat := 36
/-- What made has while it goes: the world's box, the live world (its lists: rsm, fsm, xsm), what stands in memory. -/
structure MInv (w : World) (bx m : Nat) (v : WV) (d : WD) (wr : World) (R : Nat → Option RecO) (X : Nat → Option ScxO) (rsm fsm xsm rs fs xs : List Nat) (v1 v2 v3 : Value) (F : Nat → List (Option Nat)) (I : Nat → Option Nat) (M : Nat → Bool) (P : Nat → ScxO → Prop) : Prop where
  made : MadeAt TLV wr w.heap.size m rsm fsm xsm v1 v2 v3
  stage : Stage wr w.heap.size R X rs fs xs F I M P
  box : Blk wr bx TWD (v.cells d)
  below : Below w.heap.size w wr
  hm : w.heap.size ≤ m
section
variable {w wr w1 : World} {bx m b : Nat} {v : WV} {d : WD} {R R' : Nat → Option RecO} {X X' : Nat → Option ScxO} {rsm fsm xsm rs fs xs rs' fs' xs' : List Nat} {v1 v2 v3 v' : Value} {F F' : Nat → List (Option Nat)} {I I' : Nat → Option Nat} {M M' : Nat → Bool} {P P' : Nat → ScxO → Prop}
/-- New blocks alone: the stage has turned. -/
theorem MInv.grow (h : MInv w bx m v d wr R X rsm fsm xsm rs fs xs v1 v2 v3 F I M P) (hb : Below wr.heap.size wr w1) (hs : Stage w1 w.heap.size R' X' rs' fs' xs' F' I' M' P') : MInv w bx m v d w1 R' X' rsm fsm xsm rs' fs' xs' v1 v2 v3 F' I' M' P' :=
  ⟨h.made.below hb, hs, h.box.below hb h.box.lt, h.below.trans (hb.mono h.below.size), h.hm⟩
theorem MInv.drew (h : MInv w bx m v d wr R X rsm fsm xsm rs fs xs v1 v2 v3 F I M P) : MInv w bx m v d wr.drew R X rsm fsm xsm rs fs xs v1 v2 v3 F I M P := h.grow (Below.refl _ _).drew (h.stage.below (Below.refl _ _).drew)
theorem MInv.pushed (h : MInv w bx m v d wr R X rsm fsm xsm rs fs xs v1 v2 v3 F I M P) {u : Value} {e n : Nat} {us : List Value} (ho : wr.ownsRow w.heap.size e 1 u n us) (he : e = TPR ∨ e = TPX) (hg : wr.grownBy w1 u.ownBlock) (j : Nat) :
    Stage (w1.setCell ⟨m, j, none⟩ v') w.heap.size R X rs fs xs F I M P ∧ Blk (w1.setCell ⟨m, j, none⟩ v') bx TWD (v.cells d) ∧ Below w.heap.size w (w1.setCell ⟨m, j, none⟩ v') := by
  have hf : Fr wr (w1.setCell ⟨m, j, none⟩ v') (Pushed m u) := pushed_fr hg
  have ht := fun k hk => pushed_types h.made.blk ho (k := k) hk
  refine ⟨h.stage.rep' (h.stage.rep.types hf (fun k hk => ?_)), hf.blk h.box (fun hk => ?_), h.below.trans (hf.below h.below.size (fun k hk => ?_))⟩
  · obtain ⟨T, ys, hb, hT⟩ := ht k hk
    refine ⟨T, ys, hb, ?_⟩
    rcases hT with rfl | rfl
    · decide
    · rcases he with rfl | rfl <;> decide
  · obtain ⟨T, ys, hb, hT⟩ := ht _ hk
    have hTW := (hb.inj h.box).1
    rcases hT with rfl | rfl
    · exact absurd hTW (by decide)
    · rcases he with rfl | rfl <;> exact absurd hTW (by decide)
  · rcases hk with rfl | hk
    · exact h.hm
    · exact (World.ownsRow.lt ho k hk.symm).1
theorem MInv.push1 (h : MInv w bx m v d wr R X rsm fsm xsm rs fs xs v1 v2 v3 F I M P) (hg : wr.grownBy w1 v1.ownBlock) (ho : w1.ownsRow w.heap.size TPR 1 v' (rsm.length + 1) ((rsm.map fun b => pv (some b)) ++ [pv (some b)])) :
    MInv w bx m v d (w1.setCell ⟨m, 0, none⟩ v') R X (rsm ++ [b]) fsm xsm rs fs xs v' v2 v3 F I M P :=
  let ⟨a, c, e⟩ := h.pushed h.made.o1 (.inl rfl) hg 0
  ⟨h.made.push1 (by decide) hg ho, a, c, e, h.hm⟩
theorem MInv.push2 (h : MInv w bx m v d wr R X rsm fsm xsm rs fs xs v1 v2 v3 F I M P) (hg : wr.grownBy w1 v2.ownBlock) (ho : w1.ownsRow w.heap.size TPX 1 v' (fsm.length + 1) ((fsm.map fun b => pv (some b)) ++ [pv (some b)]))
    (hat : v'.ownBlock = v2.ownBlock ∨ ∃ b, v'.ownBlock = some b ∧ wr.heap.size ≤ b) : MInv w bx m v d (w1.setCell ⟨m, 1, none⟩ v') R X rsm (fsm ++ [b]) xsm rs fs xs v1 v' v3 F I M P :=
  let ⟨a, c, e⟩ := h.pushed h.made.o2 (.inr rfl) hg 1
  ⟨h.made.push2 (by decide) hg ho hat, a, c, e, h.hm⟩
theorem MInv.push3 (h : MInv w bx m v d wr R X rsm fsm xsm rs fs xs v1 v2 v3 F I M P) (hg : wr.grownBy w1 v3.ownBlock) (ho : w1.ownsRow w.heap.size TPX 1 v' (xsm.length + 1) ((xsm.map fun b => pv (some b)) ++ [pv (some b)]))
    (hat : v'.ownBlock = v3.ownBlock ∨ ∃ b, v'.ownBlock = some b ∧ wr.heap.size ≤ b) : MInv w bx m v d (w1.setCell ⟨m, 2, none⟩ v') R X rsm fsm (xsm ++ [b]) rs fs xs v1 v2 v' F I M P :=
  let ⟨a, c, e⟩ := h.pushed h.made.o3 (.inr rfl) hg 2
  ⟨h.made.push3 (by decide) hg ho hat, a, c, e, h.hm⟩
theorem MInv.at0 (h : MInv w bx m v d wr R X rsm fsm xsm rs fs xs v1 v2 v3 F I M P) : wr.cell? ⟨m, 0, none⟩ = some v1 := by rw [h.made.blk.cell]; rfl
theorem MInv.at1 (h : MInv w bx m v d wr R X rsm fsm xsm rs fs xs v1 v2 v3 F I M P) : wr.cell? ⟨m, 1, none⟩ = some v2 := by rw [h.made.blk.cell]; rfl
theorem MInv.at2 (h : MInv w bx m v d wr R X rsm fsm xsm rs fs xs v1 v2 v3 F I M P) : wr.cell? ⟨m, 2, none⟩ = some v3 := by rw [h.made.blk.cell]; rfl
end
/-- Behind the append the struct's cells are as they were. -/
theorem after_append {wr w1 : World} {m j e n B TM : Nat} {u x v' : Value} {us ms : List Value} (hm : Blk wr m TM ms) (ho : wr.ownsRow B e 1 u n us) (hne : TM ≠ e) (hg : wr.grownBy w1 u.ownBlock) (hx : ms[j]? = some x) (n' : Nat) {us' : List Value} (ho' : w1.ownsRow B e 1 v' n' us') :
    w1.cell? ⟨m, j, none⟩ = some x ∧ w1.frozen? ⟨m, j, none⟩ = false ∧ ∃ A c, v' = .slice A n' c := by
  have hm1 : Blk w1 m TM ms := (Fr.of_grown hg).blk hm (fun e2 => by
    obtain ⟨c, hc⟩ := owns_typed ho m e2.symm
    exact hne (hm.inj hc).1)
  obtain ⟨A, c, hv, _⟩ := owns_slice ho'
  exact ⟨by rw [hm1.cell]; exact hx, hm1.free _ rfl, A, c, hv⟩
theorem cell_alloc_drew {w : World} {a : Addr} {v : Value} (o : Obj) (h : w.cell? a = some v) : (w.alloc o).drew.cell? a = some v := by
  show (w.alloc o).cell? a = some v
  rw [World.cell?_alloc_some _ _ _ (by rw [h]; rfl)]; exact h
/-- After j records. -/
def MI1 (w : World) (bx m : Nat) (v : WV) (d : WD) (j : Nat) (wr : World) : Prop :=
  ∃ R X rs fs v1 v2, rs.length = j ∧ MInv w bx m v d wr R X rs fs [] rs fs [] v1 v2 (.slice none 0 0) (fun i => List.replicate (d.fields.getD i []).length none) (fun i => fs[i]?) (fun _ => false) (fun _ _ => True)

theorem MI1.start (w : World) (v : WV) (d : WD) : MI1 w w.heap.size (w.heap.size + 1) v d 0 ((w.alloc (.cells (v.cells d).toArray TWD)).alloc (.cells #[.slice none 0 0, .slice none 0 0, .slice none 0 0] TLV)) := by
  refine ⟨fun _ => none, fun _ => none, [], [], .slice none 0 0, .slice none 0 0, rfl, ⟨?_, World.ownsRow_nil _ _ _ _, World.ownsRow_nil _ _ _ _, World.ownsRow_nil _ _ _ _, (fun k hk => by cases hk)⟩, ⟨Rep.empty _ _ _ _ _, by simp, by simp, rfl, (fun i b hb => by simp at hb), (fun i b hb => by simp at hb), (fun b hb => by simp at hb), (fun b hb => by simp at hb)⟩, ?_, ?_, ?_⟩
  · have := Blk.new (w.alloc (.cells (v.cells d).toArray TWD)) TLV [.slice none 0 0, .slice none 0 0, .slice none 0 0]
    simpa using this
  · exact (Blk.new w TWD (v.cells d)).alloc _
  · exact ((Below.refl w.heap.size w).alloc (Nat.le_refl _) _).alloc (by simp) _
  · omega

def PP (d : WD) (i : Nat) (s : ScxO) : Prop := s.state = d.states.getD i 0 ∧ s.frozen = d.frozen.getD i false
/-- After the records and j SCX-records. -/
def MI2 (w : World) (bx m : Nat) (v : WV) (d : WD) (j : Nat) (wr : World) : Prop :=
  ∃ R X rs fs xs v1 v2 v3, rs.length = d.fields.length ∧ xs.length = j ∧ MInv w bx m v d wr R X rs fs xs rs fs xs v1 v2 v3 (fun i => List.replicate (d.fields.getD i []).length none) (fun i => fs[i]?) (fun _ => false) (PP d)
theorem MI2.start {w : World} {bx m : Nat} {v : WV} {d : WD} {wr : World} {R : Nat → Option RecO} {X : Nat → Option ScxO} {rs fs : List Nat} {v1 v2 : Value} (hl : rs.length = d.fields.length)
    (h : MInv w bx m v d wr R X rs fs [] rs fs [] v1 v2 (.slice none 0 0) (fun i => List.replicate (d.fields.getD i []).length none) (fun i => fs[i]?) (fun _ => false) (fun _ _ => True)) : MI2 w bx m v d 0 wr :=
  ⟨R, X, rs, fs, [], v1, v2, _, hl, rfl, h.made, h.stage.cong (fun _ _ => rfl) (fun _ _ => rfl) (fun _ _ => rfl) (fun i s hi => by simp at hi), h.box, h.below, h.hm⟩

/-- Fields, infos, marks while the third loop goes: j records done, of record j k fields. -/
def FF (rs : List Nat) (d : WD) (j k i : Nat) : List (Option Nat) := if i < j then (d.fields.getD i []).map (rp rs) else if i = j then ((d.fields.getD i []).take k).map (rp rs) ++ List.replicate ((d.fields.getD i []).length - k) none else List.replicate (d.fields.getD i []).length none
def II (fs xs : List Nat) (d : WD) (j i : Nat) : Option Nat := if i < j then ip fs xs i (d.infos.getD i 0) else fs[i]?
def MM (d : WD) (j i : Nat) : Bool := if i < j then d.marks.getD i false else false
theorem FF_zero (rs : List Nat) (d : WD) (i : Nat) : List.replicate (d.fields.getD i []).length none = FF rs d 0 0 i := by
  unfold FF; simp
theorem FF_next (rs : List Nat) (d : WD) (j i : Nat) : FF rs d j (d.fields.getD j []).length i = FF rs d (j + 1) 0 i := by
  unfold FF
  rcases Nat.lt_trichotomy i j with h | h | h
  · simp [h, show i < j + 1 by omega]
  · subst h; simp
  · simp [show ¬ i < j by omega, show ¬ i = j by omega, show ¬ i < j + 1 by omega]
theorem II_next (fs xs : List Nat) (d : WD) (j i : Nat) : (if i = j then ip fs xs j (d.infos.getD j 0) else II fs xs d j i) = II fs xs d (j + 1) i := by
  unfold II
  rcases Nat.lt_trichotomy i j with h | h | h
  · simp [h, show ¬ i = j by omega, show i < j + 1 by omega]
  · subst h; simp
  · simp [show ¬ i < j by omega, show ¬ i = j by omega, show ¬ i < j + 1 by omega]
theorem MM_next (d : WD) (j i : Nat) : (if i = j then d.marks.getD j false else MM d j i) = MM d (j + 1) i := by
  unfold MM
  rcases Nat.lt_trichotomy i j with h | h | h
  · simp [h, show ¬ i = j by omega, show i < j + 1 by omega]
  · subst h; simp
  · simp [show ¬ i < j by omega, show ¬ i = j by omega, show ¬ i < j + 1 by omega]
theorem FF_len (rs : List Nat) (d : WD) (j k : Nat) (hk : k ≤ (d.fields.getD j []).length) : (FF rs d j k j).length = (d.fields.getD j []).length := by
  unfold FF; simp only [Nat.lt_irrefl, if_false, if_true, List.length_append, List.length_map, List.length_take, List.length_replicate]; omega
theorem FF_step (rs : List Nat) (d : WD) (j k i : Nat) (hk : k < (d.fields.getD j []).length) : (if i = j then (FF rs d j k j).set k (rp rs ((d.fields.getD j [])[k])) else FF rs d j k i) = FF rs d j (k + 1) i := by
  unfold FF
  rcases Nat.lt_trichotomy i j with h | h | h
  · simp [h, show ¬ i = j by omega]
  · subst h
    simp only [Nat.lt_irrefl, if_false, if_true]
    generalize d.fields.getD i [] = row at *
    rw [List.set_append_right _ _ (by simp; omega)]
    simp only [List.length_map, List.length_take, Nat.min_eq_left (Nat.le_of_lt hk), Nat.sub_self]
    rw [show row.length - k = (row.length - (k + 1)) + 1 by omega, List.replicate_succ, List.set_cons_zero, List.take_add_one, List.getElem?_eq_getElem hk, List.map_append, List.append_assoc]
    rfl
  · simp [show ¬ i < j by omega, show ¬ i = j by omega]
/-- What made holds between two steps of its third loop. -/
def MAt (w : World) (bx m : Nat) (v : WV) (d : WD) (rs fs xs : List Nat) (v1 v2 v3 : Value) (F : Nat → List (Option Nat)) (I : Nat → Option Nat) (M : Nat → Bool) (wr : World) : Prop :=
  ∃ R X, MInv w bx m v d wr R X rs fs xs rs fs xs v1 v2 v3 F I M (PP d)
section
variable {w wr w1 : World} {bx m b : Nat} {v : WV} {d : WD} {R R' : Nat → Option RecO} {X X' : Nat → Option ScxO} {rs fs xs : List Nat} {v1 v2 v3 : Value} {F F' : Nat → List (Option Nat)} {I I' : Nat → Option Nat} {M M' : Nat → Bool} {P P' : Nat → ScxO → Prop}
theorem MInv.cong (h : MInv w bx m v d wr R X rs fs xs rs fs xs v1 v2 v3 F I M P) (h1 : ∀ i, F i = F' i) (h2 : ∀ i, I i = I' i) (h3 : ∀ i, M i = M' i) : MInv w bx m v d wr R X rs fs xs rs fs xs v1 v2 v3 F' I' M' P :=
  ⟨h.made, h.stage.cong (fun i _ => h1 i) (fun i _ => h2 i) (fun i _ => h3 i) (fun _ _ _ h => h), h.box, h.below, h.hm⟩
/-- Record i has turned. -/
theorem MInv.turn (h : MInv w bx m v d wr R X rs fs xs rs fs xs v1 v2 v3 F I M P) {i fb : Nat} (hi : rs[i]? = some b) (ho : R b = some ⟨[.int .i64 (i : Int)], fb, F i, I i, M i⟩) {fl : List (Option Nat)} {inf : Option Nat} {mk : Bool} {c : Nat} (hc : c = b ∨ c = fb) (hf : Fr wr w1 (fun k => k = c))
    (hrep : Repint w1 (upd R b ⟨[.int .i64 (i : Int)], fb, fl, inf, mk⟩) X) :
    MInv w bx m v d w1 (upd R b ⟨[.int .i64 (i : Int)], fb, fl, inf, mk⟩) X rs fs xs rs fs xs v1 v2 v3 (fun k => if k = i then fl else F k) (fun k => if k = i then inf else I k) (fun k => if k = i then mk else M k) P := by
  have hT : w.heap.size ≤ c ∧ ∃ T ys, Blk wr c T ys ∧ T ≠ TLV ∧ T ≠ TPR ∧ T ≠ TPX ∧ T ≠ TWD := by
    rcases hc with rfl | rfl
    · exact ⟨h.stage.lo _ (by simp [List.mem_of_getElem? hi]), _, _, (h.stage.rep.recs _ _ ho).1, by decide, by decide, by decide, by decide⟩
    · obtain ⟨fb', h1, h2⟩ := h.stage.r i b hi
      rw [ho] at h1
      have : c = fb' := by simpa using congrArg RecO.fb (Option.some.inj h1)
      subst this
      exact ⟨h2, _, _, h.stage.rep.fld _ _ ho, by decide, by decide, by decide, by decide⟩
  obtain ⟨hge, T, ys, hb, h1, h2, h3, h4⟩ := hT
  exact ⟨h.made.types hf (fun k hk => by subst hk; exact ⟨T, ys, hb, h1, h2, h3⟩), h.stage.setRec hi ho hrep, hf.blk h.box (fun e => by subst e; exact h4 (hb.inj h.box).1), h.below.trans (hf.below h.below.size (fun k hk => hk ▸ hge)), h.hm⟩
end
/-- A world stands as records: what made leaves. -/
structure LiveAt (d : WD) (B m : Nat) (w : World) (R : Nat → Option RecO) (X : Nat → Option ScxO) (rs fs xs : List Nat) (v1 v2 v3 : Value) : Prop where
  hr : rs.length = d.fields.length
  hx : xs.length = d.states.length
  made : MadeAt TLV w B m rs fs xs v1 v2 v3
  stage : Stage w B R X rs fs xs (fun i => (d.fields.getD i []).map (rp rs)) (fun i => ip fs xs i (d.infos.getD i 0)) (fun i => d.marks.getD i false) (PP d)
  hm : B ≤ m
def Live (d : WD) (B m : Nat) (w : World) : Prop := ∃ R X rs fs xs v1 v2 v3, LiveAt d B m w R X rs fs xs v1 v2 v3
theorem MAt.live {w wr : World} {bx m : Nat} {v : WV} {d : WD} {rs fs xs : List Nat} {v1 v2 v3 : Value} (hr : rs.length = d.fields.length) (hx : xs.length = d.states.length)
    (h : MAt w bx m v d rs fs xs v1 v2 v3 (FF rs d d.fields.length 0) (II fs xs d d.fields.length) (MM d d.fields.length) wr) : Below w.heap.size w wr ∧ Live d w.heap.size m wr := by
  obtain ⟨R, X, h⟩ := h
  refine ⟨h.below, R, X, rs, fs, xs, v1, v2, v3, hr, hx, h.made, h.stage.cong (fun i hi => ?_) (fun i hi => ?_) (fun i hi => ?_) (fun _ _ _ h => h), h.hm⟩
  · unfold FF; rw [if_pos (by omega)]
  · unfold II; rw [if_pos (by omega)]
  · unfold MM; rw [if_pos (by omega)]

set_option maxHeartbeats 4000000 in
set_option maxRecDepth 100000 in
theorem rec_made (w : World) (v : WV) (d : WD) (hv : v.Reads w d) (l0 : d.fields.length ≤ 64) (l1 : ∀ r ∈ d.fields, r.length ≤ 64) (l3 : d.states.length ≤ 64) (e1 : d.infos.length = d.fields.length) (e2 : d.marks.length = d.fields.length) (e4 : d.frozen.length = d.states.length)
    (hF : ∀ r ∈ d.fields, ∀ n ∈ r, -1 ≤ n ∧ n < d.fields.length) (hI : ∀ n ∈ d.infos, -1 ≤ n ∧ n < d.states.length) (hS : ∀ n ∈ d.states, 0 ≤ n ∧ n < 3) :
    Calls Try.prog 40 #[v.val d] w fun e w' => ∃ m, e = .returned (.pointer (some ⟨m, 0, none⟩)) ∧ Below w.heap.size w w' ∧ Live d w.heap.size m w' := by
  refine calls_hide fun Q HQ => ?_
  have HQ' := Lib.hid HQ
  have HV := Lib.hid hv
  have HL1 := Lib.hid l1
  have HFb := Lib.hid hF
  have HIb := Lib.hid hI
  have HSb := Lib.hid hS
  have E1 := Lib.hid e1
  have E2 := Lib.hid e2
  have E4 := Lib.hid e4
  have hst := Lib.hid (MI1.start w v d)
  have hmk := fun n (hn : n ≤ 64) w => run_make_nils (P := Try.prog) (t := 82) Try.underlying82 pinfo_rec rfl n (by omega) (by omega) w
  have HMK := Lib.hid hmk
  clear HQ hv l1 hF hI hS e1 e2 e4 hmk
  go_enter Try.func40, Try.ntmps40
  go_wp2
  go_loopw [19] (fun k wr => ∃ j : Nat, j ≤ d.fields.length ∧ k = .int .i64 j ∧ MI1 w w.heap.size (w.heap.size + 1) v d j wr) (fun k _ => d.fields.length - (intOf k).toNat)
  case atStart => exact ⟨0, Nat.zero_le _, rfl, hst.out⟩
  case round =>
    clear hst
    obtain ⟨j, hj, rfl, R, X, rs, fs, v1, v2, hrl, hM⟩ := hrel
    have HM := Lib.hid hM
    clear hM
    subst hrl
    by_cases hlt : rs.length < d.fields.length
    · obtain ⟨ad, hA, A', c', hc0, _, _⟩ := row_at HV.out.h0 hlt
      have hc : wr.cell? (ad.add rs.length) = some (.slice A' d.fields[rs.length].length c') := pw_cell_below HM.out.below hc0
      have hn64 := HL1.out d.fields[rs.length] (List.getElem_mem hlt)
      have HD := Lib.hid (show d.fields.getD rs.length [] = d.fields[rs.length] by simp [List.getD_eq_getElem?_getD, List.getElem?_eq_getElem hlt])
      generalize d.fields[rs.length] = row at *
      have hmk := HMK.out row.length hn64 wr
      have hps : ((List.replicate row.length (none : Option Nat)).map pv) = List.replicate row.length (.pointer none) := by simp [hd]
      have HN := Lib.hid (new_int (rs.length : Int) (some ⟨wr.heap.size, 0, none⟩) row.length (List.replicate row.length none) R X (wr.alloc (.cells (nils row.length) 150)) (HM.out.stage.rep.below ((Below.refl wr.heap.size wr).alloc (Nat.le_refl _) _))
        (by rw [hps]; have := Row1.of_blk (rest := []) (by simpa using nils_blk wr 150 row.length); simpa using this) (fun p hp => by rw [List.eq_of_mem_replicate hp]; exact Ok.none R) (by simp; omega))
      have hlr : (List.replicate row.length (none : Option Nat)).length = row.length := by simp
      rw [hlr] at HN
      clear hc0 hps hlr
      have hbx := HM.out.box
      obtain ⟨A0, c0, A1, c1, A2, c2, A3, c3, A4, c4⟩ := v
      simp only at hA
      subst hA
      go_wp2_with fail
      refine HN.out.mono ?_
      rintro e w1 ⟨b, fb, xb, rfl, hb, hfb, hxb, hbel, hrep⟩
      simp only [World.size_alloc] at hb hfb hxb
      have hbel1 : Below wr.heap.size wr w1 := ((Below.refl wr.heap.size wr).alloc (Nat.le_refl _) _).trans (hbel.mono (by simp))
      have hfl : fs.length = rs.length := HM.out.stage.len
      have HS := ((HM.out.stage.cong (F' := fun i => List.replicate (d.fields.getD i []).length none) (I' := fun i => (fs ++ [xb])[i]?) (M' := fun _ => false) (P' := fun _ _ => True) (fun _ _ => rfl) (fun i hi => by rw [List.getElem?_append_left (by omega)]) (fun _ _ => rfl) (fun _ _ _ _ => trivial)).addRec hbel1 (by omega) (by omega) (by omega) HM.out.below.size hrep (by rw [HD.out]) (by simp [hfl]) rfl)
      have HM1 := Lib.hid (HM.out.grow hbel1 HS)
      have HFL := Lib.hid hfl
      clear hb hfb hxb hbel hrep HN hmk hc hbel1 HS HD hbx HM hfl
      have HI := Lib.hid (fun w' (h : Repint w' _ (upd X xb firstO)) => calls_swap (infon_int _ _ w' h b _ (upd_self R b ⟨[.int .i64 (rs.length : Int)], fb, List.replicate row.length none, some xb, false⟩)))
      have hk0 := HM1.out.at0

      go_wp2_with (at_builtin; refine print_append_cells w.heap.size rfl _ _ 82 150 (.pointer none) 1 8 rfl Try.underlying82 pinfo_rec rfl (by decide) (by decide) v1 rs.length _ [pv (some b)] rfl rfl rfl (by simp [Value.oneCell']) HM1.out.made.o1 HM1.out.below HM1.out.below.size (by omega) ?_)
      intro a1 w2 hown1 hb1 hg1 hat1
      have HM2 := Lib.hid (HM1.out.push1 hg1 hown1)
      obtain ⟨hc1, hf1, A1', c1', hv1⟩ := after_append HM1.out.made.blk HM1.out.made.o1 (by decide) hg1 (j := 0) rfl _ hown1
      clear hown1 hb1 hg1 hat1 hk0 HM1
      subst hv1
      go_wp2_with fail
      generalize (w2.setCell ⟨w.heap.size + 1, 0, none⟩ (.slice A1' (rs.length + 1) c1')) = wq at *
      clear hc1 hf1
      have HM3 := Lib.hid HM2.out.drew
      have hk1 := HM2.out.at1
      clear HM2
      have hk2 : (wq.alloc (Obj.cells #[pv (some xb)] 81)).cell? ⟨w.heap.size + 1, 1, none⟩ = some v2 := cell_alloc_drew _ hk1
      go_region_law (first
        | (go_simp; go_at_call 71; refine (HI.out _ HM3.out.stage.rep).mono ?_; rintro e w' ⟨rfl, rfl⟩)
        | (refine step_append_cells (W := wq.drew) w.heap.size (by rfl) _ _ 83 81 (.pointer none) 1 8 rfl Try.underlying83 pinfo_scx rfl (by decide) (by decide) v2 fs.length _ [pv (some xb)] rfl rfl rfl (by simp [Value.oneCell']) HM3.out.made.o2 HM3.out.below HM3.out.below.size (by have := HFL.out; omega) ?_
           intro a2 w3 hown2 hb2 hg2 hat2
           have HM4 := Lib.hid (HM3.out.push2 hg2 hown2 hat2)
           obtain ⟨hc2, hf2, A2', c2', hv2⟩ := after_append HM3.out.made.blk HM3.out.made.o2 (by decide) hg2 (j := 1) rfl _ hown2
           clear hown2 hb2 hg2 hat2
           subst hv2))
      all_goals
        go_wp2
        go_roundw
        case rel => exact ⟨rs.length + 1, by omega, by go_num, _, _, rs ++ [b], fs ++ [xb], _, _, by simp, HM4.out⟩
        case measure => simp [intOf]; omega
    · have hj0 : rs.length = d.fields.length := by omega
      have hs2 := Lib.hid (MI2.start hj0 HM.out)
      have hb3 : wr.cell? ⟨w.heap.size, 3, none⟩ = some (.slice v.A3 d.states.length v.c3) := HM.out.box.cell 3
      clear HM hj hj0
      go_wp2
      go_loopw [54] (fun k wr => ∃ j : Nat, j ≤ d.states.length ∧ k = .int .i64 j ∧ MI2 w w.heap.size (w.heap.size + 1) v d j wr) (fun k _ => d.states.length - (intOf k).toNat)
      case atStart => exact ⟨0, Nat.zero_le _, rfl, hs2.out⟩
      case round =>
        clear hs2
        obtain ⟨j, hj, rfl, R, X, rs, fs, xs, v1, v2, v3, hrl, hxl, hM⟩ := hrel
        have HM := Lib.hid hM
        clear hM
        subst hxl
        by_cases hlt : xs.length < d.states.length
        · obtain ⟨ad, hA, hc0⟩ := int_at HV.out.h3 hlt
          have hc : _ = some (Value.int .i64 d.states[xs.length]) := pw_cell_below HM.out.below hc0
          obtain ⟨ad2, hA2, hc2⟩ := bool_at HV.out.h4 (j := xs.length) (by have := E4.out; omega)
          have hc3 : _ = some (Value.bool (d.frozen[xs.length]'(by have := E4.out; omega))) := pw_cell_below HM.out.below hc2
          have hS := HSb.out d.states[xs.length] (List.getElem_mem hlt)
          have HD := Lib.hid (show d.states.getD xs.length 0 = d.states[xs.length] ∧ d.frozen.getD xs.length false = d.frozen[xs.length]'(by have := E4.out; omega) by constructor <;> simp [List.getD_eq_getElem?_getD, List.getElem?_eq_getElem, hlt, E4.out])
          generalize d.states[xs.length] = st at *
          generalize d.frozen[xs.length]'(by have := E4.out; omega) = fz at *
          have HN := Lib.hid (newscx_int none 0 0 [] none 0 0 [] none 0 0 [] 0 0 none none R X wr HM.out.stage.rep ⟨rfl, fun h => absurd h (by decide)⟩ ⟨rfl, fun h => absurd h (by decide)⟩ ⟨rfl, fun h => absurd h (by decide)⟩ (fun _ => ⟨rfl, rfl⟩) (fun _ => ⟨rfl, rfl⟩) (fun _ => ⟨rfl, rfl⟩) (by simp) (by simp) (by simp) (by decide) (by decide) (by decide))
          have HC2 := Lib.hid hc2
          clear hc0 hc2
          have hbx := HM.out.box
          have h4 := E4.out
          obtain ⟨A0, c0, A1, c1, A2, c2, A3, c3, A4, c4⟩ := v
          simp only at hA hA2
          subst hA hA2
          go_wp2_with fail
          refine HN.out.mono ?_
          rintro e w1 ⟨b, t1, t2, t3, he, hb, hbel, hrep, ho1, ho2, ho3⟩
          replace he : e = .returned (.pointer (some ⟨b, 0, none⟩)) := he
          subst he
          have HR := Lib.hid hrep
          have HB := Lib.hid hbel
          clear HN hrep hbel ho1 ho2 ho3
          go_wp2_with fail
          refine (set_state R _ w1 HR.out b _ (upd_self X b _) st hS.1 (by omega)).mono ?_
          rintro e w2 ⟨rfl, hf1, hr1⟩
          rw [upd_upd] at hr1
          have HF1 := Lib.hid hf1
          have HR1 := Lib.hid hr1
          clear hf1 hr1 HR
          have HB2 := Lib.hid (HB.out.trans (HF1.out.below HB.out.size (fun k hk => hk ▸ hb)))
          have HM2 := Lib.hid (HM.out.grow HB2.out (HM.out.stage.below HB2.out))
          have hbx2 : w2.cell? ⟨w.heap.size, 4, none⟩ = some (.slice (some ad2) d.frozen.length c4) := HM2.out.box.cell 4
          have hc4 := pw_cell_below HM2.out.below HC2.out
          clear hbx hc hc3 HF1
          go_wp2_with fail
          refine wp_region_still_tail 8 (by kernel_rfl) (by kernel_rfl) ?_
          simp only [List.take_succ_cons, List.take_zero, List.drop_succ_cons, List.drop_zero]
          iterate 8 still_step
          refine wpStill_nil ?_
          change wpList _ _ _ _ _ w2.drew
          have HR2 := Lib.hid (HR1.out.below (Below.refl _ _).drew)
          have HB3 := Lib.hid HB2.out.drew
          clear HM2 hbx2 hc4 HR1 HB2
          generalize w2.drew = wz at *
          go_wp2_with fail
          refine (set_frozen R _ wz HR2.out b _ (upd_self X b _) fz).mono ?_
          rintro e w3 ⟨rfl, hf1, hr1⟩
          rw [upd_upd] at hr1
          have hb4 := (HB3.out.trans (hf1.below HB3.out.size (fun k hk => hk ▸ hb)))
          have HM3 := Lib.hid (HM.out.grow hb4 (HM.out.stage.addScx hb4 hb HM.out.below.size hr1 ⟨HD.out.1.symm, HD.out.2.symm⟩))
          clear hb4 hr1 hf1 HB3 HR2 HM HC2 HD
          have hk0 := HM3.out.at2
          go_wp2_with (at_builtin; refine print_append_cells w.heap.size rfl _ _ 83 81 (.pointer none) 1 8 rfl Try.underlying83 pinfo_scx rfl (by decide) (by decide) v3 xs.length _ [pv (some b)] rfl rfl rfl (by simp [Value.oneCell']) HM3.out.made.o3 HM3.out.below HM3.out.below.size (by omega) ?_)
          intro a1 w4 hown1 hb1 hg1 hat1
          have HM4 := Lib.hid (HM3.out.push3 hg1 hown1 hat1)
          obtain ⟨hc1, hf1, A1', c1', hv1⟩ := after_append HM3.out.made.blk HM3.out.made.o3 (by decide) hg1 (j := 2) rfl _ hown1
          clear hown1 hb1 hg1 hat1 hk0 HM3
          subst hv1
          go_wp2
          go_roundw
          case rel => exact ⟨xs.length + 1, by omega, by go_num, _, _, rs, fs, xs ++ [b], _, _, _, hrl, by simp, HM4.out⟩
          case measure => simp [intOf]; omega
        · have HJ0 := Lib.hid (show xs.length = d.states.length by omega)
          obtain ⟨A1, k1, hv1, _⟩ := owns_slice HM.out.made.o1
          subst hv1
          have hk0 := HM.out.at0
          have hs3 := Lib.hid (show MAt w w.heap.size (w.heap.size + 1) v d rs fs xs _ v2 v3 (FF rs d 0 0) (II fs xs d 0) (MM d 0) wr from ⟨R, X, HM.out.cong (FF_zero rs d) (fun _ => rfl) (fun _ => rfl)⟩)
          clear HM hj
          go_wp2
          go_loopw [90] (fun k wr => ∃ j : Nat, j ≤ d.fields.length ∧ k = .int .i64 j ∧ MAt w w.heap.size (w.heap.size + 1) v d rs fs xs (.slice A1 rs.length k1) v2 v3 (FF rs d j 0) (II fs xs d j) (MM d j) wr) (fun k _ => d.fields.length - (intOf k).toNat)
          case atStart => exact ⟨0, Nat.zero_le _, rfl, hs3.out⟩
          case round =>
            clear hs3 hk0 hb3
            obtain ⟨j, hj, rfl, R, X, hM⟩ := hrel
            have HM := Lib.hid hM
            clear hM
            by_cases hlt3 : j < d.fields.length
            · obtain ⟨b0, k0, hv, hcell⟩ := owns_at HM.out.made.o1 (j := j) (by omega)
              have hA1 := (Value.slice.inj hv).1
              subst hA1
              obtain ⟨b, hbj⟩ : ∃ b, rs[j]? = some b := ⟨rs[j], List.getElem?_eq_getElem (by omega)⟩
              rw [hbj] at hcell
              have hcell1 : _ = some (Value.pointer (some ⟨b, 0, none⟩)) := hcell
              obtain ⟨ad, hA, A', c', hc0, _, hrow⟩ := row_at HV.out.h0 hlt3
              have hc : _ = some (Value.slice A' d.fields[j].length c') := pw_cell_below HM.out.below hc0
              have hn64 := HL1.out d.fields[j] (List.getElem_mem hlt3)
              have HFr := Lib.hid (HFb.out d.fields[j] (List.getElem_mem hlt3))
              have HD := Lib.hid (show d.fields.getD j [] = d.fields[j] by simp [List.getD_eq_getElem?_getD, List.getElem?_eq_getElem hlt3])
              have HBJ := Lib.hid hbj
              generalize d.fields[j] = row at *
              have HRow := Lib.hid hrow
              have hbx : wr.cell? ⟨w.heap.size, 0, none⟩ = some (.slice v.A0 d.fields.length v.c0) := HM.out.box.cell 0
              have hs4 := Lib.hid (show MAt w w.heap.size (w.heap.size + 1) v d rs fs xs _ v2 v3 (FF rs d j 0) (II fs xs d j) (MM d j) wr from ⟨R, X, HM.out⟩)
              obtain ⟨A0, c0, A1, c1, A2, c2, A3, c3, A4, c4⟩ := v
              simp only at hA
              subst hA
              clear hv hcell hrow hc0 hbj HM
              go_wp2
              go_loopw [101] (fun k wr => ∃ q : Nat, q ≤ row.length ∧ k = .int .i64 q ∧ MAt w w.heap.size (w.heap.size + 1) ⟨some ad, c0, A1, c1, A2, c2, A3, c3, A4, c4⟩ d rs fs xs (.slice (some ⟨b0, 0, none⟩) rs.length k1) v2 v3 (FF rs d j q) (II fs xs d j) (MM d j) wr) (fun k _ => row.length - (intOf k).toNat)
              case atStart => exact ⟨0, Nat.zero_le _, rfl, hs4.out⟩
              case round =>
                clear hs4 hcell1 hc hbx
                obtain ⟨q, hq, rfl, R, X, hM⟩ := hrel
                have HM := Lib.hid hM
                clear hM
                by_cases hlt4 : q < row.length
                · obtain ⟨ad2, hA2, hc2⟩ := int_at HRow.out hlt4
                  subst hA2
                  have hc3 : _ = some (Value.int .i64 row[q]) := pw_cell_below HM.out.below hc2
                  obtain ⟨fb, hfb, hfbl⟩ := HM.out.stage.r j b HBJ.out
                  have hfl : (FF rs d j q j).length = row.length := by rw [FF_len _ _ _ _ (by rw [HD.out]; omega), HD.out]
                  have hfc : _ = some (Value.slice (some ⟨fb, 0, none⟩) row.length row.length) := (HM.out.stage.rep.cell hfb 0).trans (by rw [← hfl]; rfl)
                  have hfc1 : wr.cell? ⟨b, 1, none⟩ = some (Value.slice (some ⟨fb, 0, none⟩) row.length row.length) := hfc
                  have hfn := HFr.out row[q] (List.getElem_mem hlt4)
                  have HLR := Lib.hid (calls_swap (live_record wr.drew w.heap.size (w.heap.size + 1) rs fs xs _ _ _ HM.out.drew.made row[q] hfn.1 (by omega)))
                  have HFL := Lib.hid (show q < (FF rs d j q j).length by omega)
                  have HFB := Lib.hid hfb
                  have HST := Lib.hid (FF_step rs d j q · (by rw [HD.out]; omega))
                  have HRQ := Lib.hid (show rp rs ((d.fields.getD j [])[q]'(by rw [HD.out]; omega)) = rp rs row[q] by simp only [HD.out])
                  generalize row[q] = n at *
                  clear hc2 hfc hfl hfb
                  go_wp2
                  refine wp_region_still_tail 9 (by kernel_rfl) (by kernel_rfl) ?_
                  simp only [List.take_succ_cons, List.take_zero, List.drop_succ_cons, List.drop_zero]
                  iterate 8 still_step
                  still_call (HLR.out)
                  refine wpStill_nil ?_
                  change wpList _ _ _ _ _ wr.drew
                  have HM1 := Lib.hid HM.out.drew
                  clear hc3 hfc1 HM HLR
                  generalize wr.drew = wz at *
                  go_wp2_with fail
                  refine (set_field R X wz HM1.out.stage.rep b _ HFB.out q HFL.out (rp rs n) (HM1.out.stage.okR n)).mono ?_
                  rintro e w1 ⟨rfl, hf1, hr1⟩
                  have HM2 := Lib.hid ((HM1.out.turn HBJ.out HFB.out (.inr rfl) hf1 hr1).cong (F' := FF rs d j (q + 1)) (I' := II fs xs d j) (M' := MM d j) (fun i => by rw [← HRQ.out]; exact HST.out i) (fun i => by split <;> simp_all) (fun i => by split <;> simp_all))
                  clear hf1 hr1 HM1 HFB HFL HST HRQ
                  go_wp2
                  go_roundw
                  case rel => exact ⟨q + 1, by omega, by go_num, _, _, HM2.out⟩
                  case measure => simp [intOf]; omega
                · have hq0 : q = row.length := by omega
                  subst hq0
                  clear hlt4 hq
                  have e1 := E1.out
                  have e2 := E2.out
                  obtain ⟨ad1, hA1, hc2⟩ := int_at HV.out.h1 (j := j) (by omega)
                  simp only at hA1
                  subst hA1
                  obtain ⟨ad2, hA2, hc4⟩ := bool_at HV.out.h2 (j := j) (by omega)
                  simp only at hA2
                  subst hA2
                  have hc3 : _ = some (Value.int .i64 (d.infos[j]'(by omega))) := pw_cell_below HM.out.below hc2
                  have hin := HIb.out (d.infos[j]'(by omega)) (List.getElem_mem _)
                  have HDI := Lib.hid (show d.infos.getD j 0 = d.infos[j]'(by omega) ∧ d.marks.getD j false = d.marks[j]'(by omega) by constructor <;> simp [List.getD_eq_getElem?_getD, List.getElem?_eq_getElem, hlt3, e1, e2])
                  have HC4 := Lib.hid hc4
                  generalize d.infos[j]'(by omega) = n at *
                  generalize d.marks[j]'(by omega) = mk at *
                  obtain ⟨fb, hfb, hfbl⟩ := HM.out.stage.r j b HBJ.out
                  have HFB := Lib.hid hfb
                  have hbx : wr.cell? ⟨w.heap.size, 1, none⟩ = some (.slice (some ad1) d.infos.length c1) := HM.out.box.cell 1
                  have hfl : fs.length = rs.length := HM.out.stage.len
                  have HLR := Lib.hid (calls_swap (live_info wr.drew w.heap.size (w.heap.size + 1) rs fs xs _ _ _ HM.out.drew.made j n (by omega) (by omega) hin.1 (by have := HJ0.out; omega)))
                  clear hc2 hc4 hfb
                  go_wp2
                  refine wp_region_still_tail 11 (by kernel_rfl) (by kernel_rfl) ?_
                  simp only [List.take_succ_cons, List.take_zero, List.drop_succ_cons, List.drop_zero]
                  iterate 10 still_step
                  still_call (HLR.out)
                  refine wpStill_nil ?_
                  change wpList _ _ _ _ _ wr.drew
                  have HM1 := Lib.hid HM.out.drew
                  clear hc3 hbx HM HLR
                  generalize wr.drew = wz at *
                  go_wp2_with fail
                  refine (set_info R X wz HM1.out.stage.rep b _ HFB.out (ip fs xs j n) (by unfold ip; split; exact HM1.out.stage.okF _; exact HM1.out.stage.okX _)).mono ?_
                  rintro e w1 ⟨rfl, hf1, hr1⟩
                  have HM2 := Lib.hid (HM1.out.turn HBJ.out HFB.out (.inl rfl) hf1 hr1)
                  have HFB2 := Lib.hid (upd_self R b (⟨[.int .i64 (j : Int)], fb, FF rs d j row.length j, ip fs xs j n, MM d j j⟩ : RecO))
                  clear hf1 hr1 HM1 HFB
                  have hbx : w1.cell? ⟨w.heap.size, 2, none⟩ = some (.slice (some ad2) d.marks.length c2) := HM2.out.box.cell 2
                  have hc4 : _ = some (Value.bool mk) := pw_cell_below HM2.out.below HC4.out
                  go_wp2
                  refine wp_region_still_tail 8 (by kernel_rfl) (by kernel_rfl) ?_
                  simp only [List.take_succ_cons, List.take_zero, List.drop_succ_cons, List.drop_zero]
                  iterate 8 still_step
                  refine wpStill_nil ?_
                  change wpList _ _ _ _ _ w1.drew
                  have HM3 := Lib.hid HM2.out.drew
                  clear hc4 hbx HM2 HC4
                  generalize w1.drew = wz at *
                  go_wp2_with fail
                  refine (set_mark _ X wz HM3.out.stage.rep b _ HFB2.out mk).mono ?_
                  rintro e w2 ⟨rfl, hf1, hr1⟩
                  have HM4 := Lib.hid ((HM3.out.turn HBJ.out (by simpa using HFB2.out) (.inl rfl) hf1 hr1).cong (F' := FF rs d (j + 1) 0) (I' := II fs xs d (j + 1)) (M' := MM d (j + 1)) (fun i => by rw [← FF_next, HD.out]; split <;> simp_all)
                    (fun i => by rw [← II_next fs xs d j i, HDI.out.1]; by_cases e : i = j <;> simp [e]) (fun i => by rw [← MM_next d j i, HDI.out.2]; by_cases e : i = j <;> simp [e]))
                  clear hf1 hr1 HM3 HFB2
                  go_wp2
                  go_roundw
                  case rel => exact ⟨j + 1, by omega, by go_num, _, _, HM4.out⟩
                  case measure => simp [intOf]; omega
            · have hj3 : j = d.fields.length := by omega
              subst hj3
              have HL := Lib.hid (MAt.live hrl HJ0.out ⟨R, X, HM.out⟩)
              clear HM hlt3 hj
              go_wp2
              exact HQ'.out _ _ ⟨_, rfl, HL.out⟩
end Go.Proofs.Ytphhdmopfmelbaa

/- record: a live world, by numbers: what the acts do to it. No walk. -/
namespace Go.Proofs.Ytphhdmopfmelbaa
open Go.RowKit Go.Proofs.YtphhdmopfmelbaaW.PrintWords
set_option linter.unusedVariables false
set_option linter.unusedSimpArgs false

/-- In form. -/
structure WD.Form (d : WD) : Prop where
  l0 : d.fields.length ≤ 64
  l1 : ∀ r ∈ d.fields, r.length ≤ 64
  l3 : d.states.length ≤ 64
  e1 : d.infos.length = d.fields.length
  e2 : d.marks.length = d.fields.length
  e4 : d.frozen.length = d.states.length
  hF : ∀ r ∈ d.fields, ∀ n ∈ r, -1 ≤ n ∧ n < d.fields.length
  hI : ∀ n ∈ d.infos, -1 ≤ n ∧ n < d.states.length
  hS : ∀ n ∈ d.states, 0 ≤ n ∧ n < 3
/-- An act fits. -/
structure WD.Fit (d : WD) (k at_ a b c : Int) : Prop where
  k0 : 1 ≤ k
  k1 : k ≤ 11
  at0 : 0 ≤ at_
  at1 : k < 7 → at_ < d.fields.length
  at2 : 7 ≤ k → at_ < d.states.length
  a0 : k = 1 ∨ k = 2 → 0 ≤ a ∧ a < (d.fields.getD at_.toNat []).length
  b0 : k = 2 → (-1 ≤ b ∧ b < d.fields.length) ∧ (-1 ≤ c ∧ c < d.fields.length)
  b1 : k = 4 → (-1 ≤ b ∧ b < d.states.length) ∧ (0 ≤ c ∧ c < d.states.length)
def bitI (f : Bool) : Int := if f then 1 else 0
/-- The kind of its access. -/
def kd (k : Int) : Int := if k = 1 ∨ k = 3 ∨ k = 5 ∨ k = 7 ∨ k = 10 then 1 else if k = 2 ∨ k = 4 then 5 else 2
/-- The act: its answer, the world behind it. -/
def doD (d : WD) (k at_ a b c : Int) : Int × WD :=
  if k = 1 then ((d.fields.getD at_.toNat []).getD a.toNat 0, d)
  else if k = 2 then (if (d.fields.getD at_.toNat []).getD a.toNat 0 = b then (1, { d with fields := d.fields.set at_.toNat ((d.fields.getD at_.toNat []).set a.toNat c) }) else (0, d))
  else if k = 3 then (d.infos.getD at_.toNat 0, d)
  else if k = 4 then (if d.infos.getD at_.toNat 0 = b then (1, { d with infos := d.infos.set at_.toNat c }) else (0, d))
  else if k = 5 then (bitI (d.marks.getD at_.toNat false), d)
  else if k = 6 then (0, { d with marks := d.marks.set at_.toNat true })
  else if k = 7 then (d.states.getD at_.toNat 0, d)
  else if k = 8 then (0, { d with states := d.states.set at_.toNat 1 })
  else if k = 9 then (0, { d with states := d.states.set at_.toNat 2 })
  else if k = 10 then (bitI (d.frozen.getD at_.toNat false), d)
  else (0, { d with frozen := d.frozen.set at_.toNat true })

theorem getD_mem {α : Type} {l : List α} {i : Nat} (h : i < l.length) (x : α) : l.getD i x ∈ l := by
  rw [List.getD_eq_getElem?_getD, List.getElem?_eq_getElem h]; exact List.getElem_mem h
theorem getD_set {α : Type} (l : List α) (i j : Nat) (a x : α) (h : i < l.length) : (l.set i a).getD j x = if j = i then a else l.getD j x := by
  rw [List.getD_eq_getElem?_getD, List.getElem?_set]
  by_cases e : i = j
  · subst e; simp [h]
  · rw [if_neg e, if_neg (fun e2 => e e2.symm), List.getD_eq_getElem?_getD]
theorem WD.Fit.row {d : WD} {k at_ a b c : Int} (h : d.Fit k at_ a b c) (hk : k < 7) : at_.toNat < d.fields.length := by
  have := h.at0; have := h.at1 hk; omega
theorem doD_form {d : WD} (h : d.Form) {k at_ a b c : Int} (f : d.Fit k at_ a b c) : (doD d k at_ a b c).2.Form := by
  unfold doD
  split
  · exact h
  split
  · split
    · have hr := f.row (by omega)
      have hm := getD_mem hr []
      have key : ∀ r, r ∈ d.fields.set at_.toNat ((d.fields.getD at_.toNat []).set a.toNat c) → r ∈ d.fields ∨ r = (d.fields.getD at_.toNat []).set a.toNat c := fun r hr => List.mem_or_eq_of_mem_set hr
      refine ⟨by simpa using h.l0, fun r hr => ?_, h.l3, by simpa using h.e1, by simpa using h.e2, h.e4, fun r hr n hn => ?_, h.hI, h.hS⟩
      · rcases key r hr with hr | rfl
        · exact h.l1 r hr
        · simpa using h.l1 _ hm
      · simp only [List.length_set]
        rcases key r hr with hr | rfl
        · exact h.hF r hr n hn
        · rcases List.mem_or_eq_of_mem_set hn with hn | rfl
          · exact h.hF _ hm n hn
          · exact (f.b0 (by assumption)).2
    · exact h
  split
  · exact h
  split
  · split
    · refine ⟨h.l0, h.l1, h.l3, by simpa using h.e1, h.e2, h.e4, h.hF, fun n hn => ?_, h.hS⟩
      rcases List.mem_or_eq_of_mem_set hn with hn | rfl
      · exact h.hI n hn
      · have := (f.b1 (by assumption)).2
        simp only; omega
    · exact h
  split
  · exact h
  split
  · exact ⟨h.l0, h.l1, h.l3, h.e1, by simpa using h.e2, h.e4, h.hF, h.hI, h.hS⟩
  split
  · exact h
  split
  · refine ⟨h.l0, h.l1, by simpa using h.l3, h.e1, h.e2, by simpa using h.e4, h.hF, by simpa using h.hI, fun n hn => ?_⟩
    rcases List.mem_or_eq_of_mem_set hn with hn | rfl
    · exact h.hS n hn
    · omega
  split
  · refine ⟨h.l0, h.l1, by simpa using h.l3, h.e1, h.e2, by simpa using h.e4, h.hF, by simpa using h.hI, fun n hn => ?_⟩
    rcases List.mem_or_eq_of_mem_set hn with hn | rfl
    · exact h.hS n hn
    · omega
  split
  · exact h
  · exact ⟨h.l0, h.l1, h.l3, h.e1, h.e2, by simpa using h.e4, h.hF, h.hI, h.hS⟩

/-! ### numbers and pointers -/
theorem rp_inj {rs : List Nat} (hn : rs.Nodup) {m n : Int} (m0 : -1 ≤ m) (m1 : m < rs.length) (n0 : -1 ≤ n) (n1 : n < rs.length) : rp rs m = rp rs n ↔ m = n := by
  refine ⟨fun h => ?_, fun h => by rw [h]⟩
  unfold rp at h
  split at h <;> split at h
  · omega
  · rw [List.getElem?_eq_getElem (by omega)] at h; cases h
  · rw [List.getElem?_eq_getElem (by omega)] at h; cases h
  · rw [List.getElem?_eq_getElem (show n.toNat < rs.length by omega)] at h
    have := nodup_get hn h (List.getElem?_eq_getElem (show n.toNat < rs.length by omega))
    omega
theorem idx_at {l : List Nat} (hn : l.Nodup) {k : Nat} (hk : k < l.length) : idx (l.map some) l[k]? = k := by
  refine idx_hit (by simpa using hk) (fun j hj e => ?_) (by simp [List.getElem?_eq_getElem hk])
  rw [List.getElem?_map, List.getElem?_eq_getElem (show j < l.length by omega), List.getElem?_eq_getElem hk] at e
  have := (List.getElem_inj hn).1 (by simpa using e)
  omega
theorem idx_none {l : List Nat} {x : Option Nat} (h : ∀ b, x = some b → b ∉ l) : idx (l.map some) x = -1 := by
  refine idx_miss (fun j hj e => ?_)
  rw [List.length_map] at hj
  rw [List.getElem?_map, List.getElem?_eq_getElem hj] at e
  simp only [Option.map_some, Option.some.injEq] at e
  exact h _ e.symm (List.getElem_mem hj)
theorem idx_rp {rs : List Nat} (hn : rs.Nodup) {n : Int} (n0 : -1 ≤ n) (n1 : n < rs.length) : idx (rs.map some) (rp rs n) = n := by
  unfold rp
  split
  · rw [idx_none (fun b e => by cases e)]; omega
  · rw [idx_at hn (by omega)]; omega
theorem ip_inj {fs xs : List Nat} (hn : (fs ++ xs).Nodup) {i m n : Int} (i0 : 0 ≤ i) (i1 : i < fs.length) (m0 : -1 ≤ m) (m1 : m < xs.length) (n0 : -1 ≤ n) (n1 : n < xs.length) : ip fs xs i m = ip fs xs i n ↔ m = n := by
  obtain ⟨h1, h2, h3⟩ := List.nodup_append.1 hn
  refine ⟨fun h => ?_, fun h => by rw [h]⟩
  unfold ip at h
  split at h <;> split at h
  · omega
  · rw [List.getElem?_eq_getElem (show i.toNat < fs.length by omega), List.getElem?_eq_getElem (show n.toNat < xs.length by omega)] at h
    exact absurd (Option.some.inj h) (h3 _ (List.getElem_mem _) _ (List.getElem_mem _))
  · rw [List.getElem?_eq_getElem (show i.toNat < fs.length by omega), List.getElem?_eq_getElem (show m.toNat < xs.length by omega)] at h
    exact absurd (Option.some.inj h).symm (h3 _ (List.getElem_mem _) _ (List.getElem_mem _))
  · rw [List.getElem?_eq_getElem (show n.toNat < xs.length by omega)] at h
    have := nodup_get h2 h (List.getElem?_eq_getElem (show n.toNat < xs.length by omega))
    omega
theorem idx_ip {fs xs : List Nat} (hn : (fs ++ xs).Nodup) {i n : Int} (i0 : 0 ≤ i) (i1 : i < fs.length) (n0 : -1 ≤ n) (n1 : n < xs.length) : idx (xs.map some) (ip fs xs i n) = n := by
  obtain ⟨h1, h2, h3⟩ := List.nodup_append.1 hn
  unfold ip
  split
  · rw [idx_none (fun b e hb => ?_)]
    · omega
    · exact h3 b (List.mem_of_getElem? e) b hb rfl
  · rw [idx_at h2 (by omega)]; omega
/-! ### a live world turns -/
section
variable {d d' : WD} {B m : Nat} {w w' : World} {R R' : Nat → Option RecO} {X X' : Nat → Option ScxO} {rs fs xs : List Nat} {v1 v2 v3 : Value} {g : Option Nat} {ks ks' : List Int} {S : Nat → Prop}
/-- These blocks are records', fields', SCX-records'. -/
def Thing (B : Nat) (w : World) (k : Nat) : Prop := B ≤ k ∧ ∃ T ys, Blk w k T ys ∧ (T = 178 ∨ T = 170 ∨ T = 152)
theorem LiveAt.row (h : LiveAt d B m w R X rs fs xs v1 v2 v3) {i : Nat} (hi : i < d.fields.length) : ∃ b fb, rs[i]? = some b ∧ R b = some ⟨[.int .i64 (i : Int)], fb, (d.fields.getD i []).map (rp rs), ip fs xs i (d.infos.getD i 0), d.marks.getD i false⟩ ∧ B ≤ fb := by
  have hb : rs[i]? = some (rs[i]'(by have := h.hr; omega)) := List.getElem?_eq_getElem _
  obtain ⟨fb, h1, h2⟩ := h.stage.r i _ hb
  exact ⟨_, fb, hb, h1, h2⟩
theorem LiveAt.scx (h : LiveAt d B m w R X rs fs xs v1 v2 v3) {i : Nat} (hi : i < d.states.length) : ∃ b s, xs[i]? = some b ∧ X b = some s ∧ PP d i s := by
  have hb : xs[i]? = some (xs[i]'(by have := h.hx; omega)) := List.getElem?_eq_getElem _
  obtain ⟨s, h1, h2⟩ := h.stage.x i _ hb
  exact ⟨_, s, hb, h1, h2⟩
theorem LiveAt.turn (h : LiveAt d B m w R X rs fs xs v1 v2 v3) (hg : GAtI w B g ks) (hs : StepI B g w w' ks' S) (hS : ∀ k, S k → Thing B w k) (hl0 : d'.fields.length = d.fields.length) (hl3 : d'.states.length = d.states.length)
    (hst : Stage w' B R' X' rs fs xs (fun i => (d'.fields.getD i []).map (rp rs)) (fun i => ip fs xs i (d'.infos.getD i 0)) (fun i => d'.marks.getD i false) (PP d')) : LiveAt d' B m w' R' X' rs fs xs v1 v2 v3 :=
  ⟨by rw [hl0]; exact h.hr, by rw [hl3]; exact h.hx, h.made.step hg hs ⟨by decide, by decide⟩ (fun k hk => by
    obtain ⟨_, T, ys, hb, hT⟩ := hS k hk
    refine ⟨T, ys, hb, ?_⟩
    rcases hT with rfl | rfl | rfl <;> refine ⟨by decide, by decide, by decide⟩), hst, h.hm⟩
theorem LiveAt.same (h : LiveAt d B m w R X rs fs xs v1 v2 v3) (hg : GAtI w B g ks) (hs : StepI B g w w' ks' (fun _ => False)) (hr : Repint w' R X) : LiveAt d B m w' R X rs fs xs v1 v2 v3 :=
  h.turn hg hs (fun _ hk => hk.elim) rfl rfl (h.stage.rep' hr)
theorem LiveAt.thingR (h : LiveAt d B m w R X rs fs xs v1 v2 v3) {i b : Nat} {o : RecO} (hi : rs[i]? = some b) (hb : R b = some o) : Thing B w b ∧ Thing B w o.fb := by
  obtain ⟨fb, h1, h2⟩ := h.stage.r i b hi
  rw [hb] at h1
  have : o.fb = fb := congrArg RecO.fb (Option.some.inj h1)
  exact ⟨⟨h.stage.lo _ (by simp [List.mem_of_getElem? hi]), _, _, (h.stage.rep.recs _ _ hb).1, .inl rfl⟩, ⟨by omega, _, _, h.stage.rep.fld _ _ hb, .inr (.inl rfl)⟩⟩
theorem LiveAt.thingX (h : LiveAt d B m w R X rs fs xs v1 v2 v3) {i b : Nat} {o : ScxO} (hi : xs[i]? = some b) (hb : X b = some o) : Thing B w b :=
  ⟨h.stage.lo _ (by simp [List.mem_of_getElem? hi]), _, _, h.stage.rep.scx _ _ hb, .inr (.inr rfl)⟩
theorem LiveAt.setRec (h : LiveAt d B m w R X rs fs xs v1 v2 v3) (hg : GAtI w B g ks) {i b fb : Nat} (hi : rs[i]? = some b) (ho : R b = some ⟨[.int .i64 (i : Int)], fb, (d.fields.getD i []).map (rp rs), ip fs xs i (d.infos.getD i 0), d.marks.getD i false⟩)
    {fl : List (Option Nat)} {inf : Option Nat} {mk : Bool} {c : Nat} (hc : c = b ∨ c = fb) (hs : StepI B g w w' ks' (fun k => k = c)) (hrep : Repint w' (upd R b ⟨[.int .i64 (i : Int)], fb, fl, inf, mk⟩) X)
    (hl0 : d'.fields.length = d.fields.length) (hl3 : d'.states = d.states) (hl4 : d'.frozen = d.frozen)
    (h1 : ∀ k, (d'.fields.getD k []).map (rp rs) = if k = i then fl else (d.fields.getD k []).map (rp rs)) (h2 : ∀ k : Nat, ip fs xs k (d'.infos.getD k 0) = if k = i then inf else ip fs xs k (d.infos.getD k 0)) (h3 : ∀ k, d'.marks.getD k false = if k = i then mk else d.marks.getD k false) :
    LiveAt d' B m w' (upd R b ⟨[.int .i64 (i : Int)], fb, fl, inf, mk⟩) X rs fs xs v1 v2 v3 :=
  h.turn hg hs (fun k hk => by
    subst hk
    rcases hc with rfl | rfl
    · exact (h.thingR hi ho).1
    · exact (h.thingR hi ho).2) hl0 (by rw [hl3]) ((h.stage.setRec hi ho hrep).cong (fun k _ => (h1 k).symm) (fun k _ => (h2 k).symm) (fun k _ => (h3 k).symm) (fun k s _ hp => by unfold PP at *; rw [hl3, hl4]; exact hp))
theorem LiveAt.setScx (h : LiveAt d B m w R X rs fs xs v1 v2 v3) (hg : GAtI w B g ks) {i b : Nat} (hi : xs[i]? = some b) {s s' : ScxO} (ho : X b = some s) (hp : PP d i s) (hs : StepI B g w w' ks' (fun k => k = b)) (hrep : Repint w' R (upd X b s'))
    (hl0 : d'.fields = d.fields) (hl1 : d'.infos = d.infos) (hl2 : d'.marks = d.marks) (hl3 : d'.states.length = d.states.length) (h1 : ∀ k, d'.states.getD k 0 = if k = i then s'.state else d.states.getD k 0) (h2 : ∀ k, d'.frozen.getD k false = if k = i then s'.frozen else d.frozen.getD k false) :
    LiveAt d' B m w' R (upd X b s') rs fs xs v1 v2 v3 :=
  h.turn hg hs (fun k hk => hk ▸ h.thingX hi ho) (by rw [hl0]) hl3 (by
    rw [hl0, hl1, hl2]
    exact h.stage.setScx hi hrep ⟨by rw [h1, if_pos rfl], by rw [h2, if_pos rfl]⟩ (fun k s1 hk hp1 => ⟨by rw [h1, if_neg hk]; exact hp1.1, by rw [h2, if_neg hk]; exact hp1.2⟩))
end
end Go.Proofs.Ytphhdmopfmelbaa

/- record: do. Written in part by p_doscx.py. -/
namespace Go.Proofs.Ytphhdmopfmelbaa
open Go.RowKit Go.Proofs.YtphhdmopfmelbaaW.PrintWords
set_option linter.unusedVariables false
set_option linter.unusedSimpArgs false

set_option maxHeartbeats 400000 in
theorem bit_of (f : Bool) (w : World) : Calls Try.prog 95 #[.bool f] w fun e w' => e = .returned (.int .i64 (bitI f)) ∧ w = w' := by
  cases f
  all_goals
    go_enter Try.func95, Try.ntmps95
    go_wp2
    go_ret
    exact ⟨rfl, rfl⟩

set_option maxHeartbeats 400000 in
theorem doscx_7 (B : Nat) (g : Option Nat) (ks : List Int) (R : Nat → Option RecO) (X : Nat → Option ScxO) (w : World) (h : Repint w R X) (hg : GAtI w B g ks) (hbB : B ≤ w.heap.size) (hl : ks.length ≤ 1000000000) (b : Nat) (o : ScxO) (ho : X b = some o) (n0 : 0 ≤ o.state) (n1 : o.state ≤ 1000) :
    Calls Try.prog 92 #[gvI g, .pointer (some ⟨b, 0, none⟩), .int .i64 7] w fun e w' => e = .returned (.int .i64 o.state) ∧ StepI B g w w' (ks ++ [1]) (fun _ => False) ∧ Repint w' R X := by
  refine calls_hide fun Q HQ => ?_
  have HQ' := Lib.hid HQ
  have HC := Lib.hid (state_int B g ks R X w h hg hbB hl b o ho n0 n1)
  clear HQ h hg
  go_enter Try.func92, Try.ntmps92
  go_wp2_with fail
  refine HC.out.mono ?_
  rintro e w1 ⟨rfl, H1, H2⟩
  have H1' := Lib.hid H1
  have H2' := Lib.hid H2
  clear H1 H2 HC
  go_wp2_with fail
  exact HQ'.out _ _ ⟨rfl, H1'.out, H2'.out⟩
set_option maxHeartbeats 400000 in
theorem doscx_8 (B : Nat) (g : Option Nat) (ks : List Int) (R : Nat → Option RecO) (X : Nat → Option ScxO) (w : World) (h : Repint w R X) (hg : GAtI w B g ks) (hbB : B ≤ w.heap.size) (hl : ks.length ≤ 1000000000) (b : Nat) (o : ScxO) (ho : X b = some o)  :
    Calls Try.prog 92 #[gvI g, .pointer (some ⟨b, 0, none⟩), .int .i64 8] w fun e w' => e = .returned (.int .i64 0) ∧ StepI B g w w' (ks ++ [2]) (fun k => k = b) ∧ Repint w' R (upd X b { o with state := 1 }) := by
  refine calls_hide fun Q HQ => ?_
  have HQ' := Lib.hid HQ
  have HC := Lib.hid (commit_int B g ks R X w h hg hbB hl b o ho)
  clear HQ h hg
  go_enter Try.func92, Try.ntmps92
  go_wp2_with fail
  refine HC.out.mono ?_
  rintro e w1 ⟨rfl, H1, H2⟩
  have H1' := Lib.hid H1
  have H2' := Lib.hid H2
  clear H1 H2 HC
  go_wp2_with fail
  exact HQ'.out _ _ ⟨rfl, H1'.out, H2'.out⟩
set_option maxHeartbeats 400000 in
theorem doscx_9 (B : Nat) (g : Option Nat) (ks : List Int) (R : Nat → Option RecO) (X : Nat → Option ScxO) (w : World) (h : Repint w R X) (hg : GAtI w B g ks) (hbB : B ≤ w.heap.size) (hl : ks.length ≤ 1000000000) (b : Nat) (o : ScxO) (ho : X b = some o)  :
    Calls Try.prog 92 #[gvI g, .pointer (some ⟨b, 0, none⟩), .int .i64 9] w fun e w' => e = .returned (.int .i64 0) ∧ StepI B g w w' (ks ++ [2]) (fun k => k = b) ∧ Repint w' R (upd X b { o with state := 2 }) := by
  refine calls_hide fun Q HQ => ?_
  have HQ' := Lib.hid HQ
  have HC := Lib.hid (abort_int B g ks R X w h hg hbB hl b o ho)
  clear HQ h hg
  go_enter Try.func92, Try.ntmps92
  go_wp2_with fail
  refine HC.out.mono ?_
  rintro e w1 ⟨rfl, H1, H2⟩
  have H1' := Lib.hid H1
  have H2' := Lib.hid H2
  clear H1 H2 HC
  go_wp2_with fail
  exact HQ'.out _ _ ⟨rfl, H1'.out, H2'.out⟩
set_option maxHeartbeats 400000 in
theorem doscx_10 (B : Nat) (g : Option Nat) (ks : List Int) (R : Nat → Option RecO) (X : Nat → Option ScxO) (w : World) (h : Repint w R X) (hg : GAtI w B g ks) (hbB : B ≤ w.heap.size) (hl : ks.length ≤ 1000000000) (b : Nat) (o : ScxO) (ho : X b = some o)  :
    Calls Try.prog 92 #[gvI g, .pointer (some ⟨b, 0, none⟩), .int .i64 10] w fun e w' => e = .returned (.int .i64 (bitI o.frozen)) ∧ StepI B g w w' (ks ++ [1]) (fun _ => False) ∧ Repint w' R X := by
  refine calls_hide fun Q HQ => ?_
  have HQ' := Lib.hid HQ
  have HC := Lib.hid (allfrozen_int B g ks R X w h hg hbB hl b o ho)
  clear HQ h hg
  go_enter Try.func92, Try.ntmps92
  go_wp2_with fail
  refine HC.out.mono ?_
  rintro e w1 ⟨rfl, H1, H2⟩
  have H1' := Lib.hid H1
  have H2' := Lib.hid H2
  clear H1 H2 HC
  go_wp2_with fail
  refine (bit_of _ _).mono ?_
  rintro e w2 ⟨rfl, rfl⟩
  go_wp2
  exact HQ'.out _ _ ⟨rfl, H1'.out, H2'.out⟩
set_option maxHeartbeats 400000 in
theorem doscx_11 (B : Nat) (g : Option Nat) (ks : List Int) (R : Nat → Option RecO) (X : Nat → Option ScxO) (w : World) (h : Repint w R X) (hg : GAtI w B g ks) (hbB : B ≤ w.heap.size) (hl : ks.length ≤ 1000000000) (b : Nat) (o : ScxO) (ho : X b = some o)  :
    Calls Try.prog 92 #[gvI g, .pointer (some ⟨b, 0, none⟩), .int .i64 11] w fun e w' => e = .returned (.int .i64 0) ∧ StepI B g w w' (ks ++ [2]) (fun k => k = b) ∧ Repint w' R (upd X b { o with frozen := true }) := by
  refine calls_hide fun Q HQ => ?_
  have HQ' := Lib.hid HQ
  have HC := Lib.hid (setallfrozen_int B g ks R X w h hg hbB hl b o ho)
  clear HQ h hg
  go_enter Try.func92, Try.ntmps92
  go_wp2_with fail
  refine HC.out.mono ?_
  rintro e w1 ⟨rfl, H1, H2⟩
  have H1' := Lib.hid H1
  have H2' := Lib.hid H2
  clear H1 H2 HC
  go_wp2_with fail
  exact HQ'.out _ _ ⟨rfl, H1'.out, H2'.out⟩
set_option maxHeartbeats 400000 in
set_option maxRecDepth 100000 in
theorem do_via (B : Nat) (g : Option Nat) (m : Nat) (rs fs xs : List Nat) (v1 v2 v3 : Value) (w : World) (h : MadeAt TLV w B m rs fs xs v1 v2 v3) (k a b c : Int) (i : Nat) (hi : i < xs.length) (s : Nat) (hs : xs[i]? = some s) (hk : 7 ≤ k) (P : Int → World → Prop)
    (HC : Calls Try.prog 92 #[gvI g, .pointer (some ⟨s, 0, none⟩), .int .i64 k] (w.alloc (.cells #[.int .i64 k, .int .i64 i, .int .i64 a, .int .i64 b, .int .i64 c] 65)).drew fun e w' => ∃ n, e = .returned (.int .i64 n) ∧ P n w') :
    Calls Try.prog 41 #[.pointer (some ⟨m, 0, none⟩), gvI g, .agg #[.int .i64 k, .int .i64 i, .int .i64 a, .int .i64 b, .int .i64 c]] w fun e w' => ∃ n, e = .returned (.int .i64 n) ∧ P n w' := by
  refine calls_hide fun Q HQ => ?_
  have HQ' := Lib.hid HQ
  have HC' := Lib.hid HC
  obtain ⟨b0, k0, hv, hcell⟩ := owns_at h.o3 hi
  rw [hs] at hcell
  have hcell1 : _ = some (Value.pointer (some ⟨s, 0, none⟩)) := hcell
  have hm : w.cell? ⟨m, 2, none⟩ = some v3 := by rw [h.blk.cell]; rfl
  rw [hv] at hm
  have hl := World.block_lt_of_cell? w _ hm
  have hl1 := World.block_lt_of_cell? w _ hcell
  clear HQ HC h hv hcell
  go_enter Try.func41, Try.ntmps41
  go_wp2_with fail
  have hbl := Blk.new w 65 [.int .i64 k, .int .i64 i, .int .i64 a, .int .i64 b, .int .i64 c]
  have hm2 := (World.cell?_alloc_lt w (.cells #[.int .i64 k, .int .i64 i, .int .i64 a, .int .i64 b, .int .i64 c] 65) _ hl).trans hm
  have hc2 := (World.cell?_alloc_lt w (.cells #[.int .i64 k, .int .i64 i, .int .i64 a, .int .i64 b, .int .i64 c] 65) _ hl1).trans hcell1
  have ha0 := hbl.cell 0
  have ha1 := hbl.cell 1
  simp only [List.getElem?_cons_zero, List.getElem?_cons_succ] at ha0 ha1
  clear hm hcell1 hbl
  generalize w.alloc (.cells #[.int .i64 k, .int .i64 i, .int .i64 a, .int .i64 b, .int .i64 c] 65) = wA at *
  refine wp_region_still_tail 11 (by kernel_rfl) (by kernel_rfl) ?_
  simp only [List.take_succ_cons, List.take_zero, List.drop_succ_cons, List.drop_zero]
  iterate 11 still_step
  refine wpStill_nil ?_
  change wpList _ _ _ _ _ wA.drew
  go_wp2_with fail
  refine HC'.out.mono ?_
  rintro e w1 ⟨n, rfl, H1⟩
  have H1' := Lib.hid H1
  clear H1 HC'
  go_wp2
  exact HQ'.out _ _ ⟨n, rfl, H1'.out⟩

end Go.Proofs.Ytphhdmopfmelbaa

/- record: do, kinds 1 to 6. Written by p_do.py. -/
namespace Go.Proofs.Ytphhdmopfmelbaa
open Go.RowKit Go.Proofs.YtphhdmopfmelbaaW.PrintWords
set_option linter.unusedVariables false
set_option linter.unusedSimpArgs false

theorem LiveAt.below {d : WD} {B m : Nat} {w w' : World} {R : Nat → Option RecO} {X : Nat → Option ScxO} {rs fs xs : List Nat} {v1 v2 v3 : Value} (h : LiveAt d B m w R X rs fs xs v1 v2 v3) (hb : Below w.heap.size w w') : LiveAt d B m w' R X rs fs xs v1 v2 v3 :=
  ⟨h.hr, h.hx, h.made.below hb, h.stage.below hb, h.hm⟩
theorem gstep_below {B : Nat} {g : Option Nat} {w w' : World} {ks : List Int} (hg : GAtI w B g ks) (hb : Below w.heap.size w w') : StepI B g w w' ks (fun _ => False) := GAt.fr hg (Fr.of_below0 hb) (fun _ _ => id)
theorem act_end {B : Nat} {g : Option Nat} {w wA w' : World} {ks ks' : List Int} {S : Nat → Prop} (hg : GAtI w B g ks) (hb : Below w.heap.size w wA) (hs : StepI B g wA w' ks' S) (hS : ∀ k, S k → Thing B wA k) : StepI B g w w' ks' (Thing B w) :=
  ((gstep_below hg hb).mono (S' := Thing B w) (fun _ _ h => h.elim)).trans hs (fun k hk hx => by
    obtain ⟨h0, T, ys, h1, h2⟩ := hS k hx
    exact ⟨h0, T, ys, (hb.block k hk).symm.trans h1, h2⟩)

theorem row_of_slice {w : World} {B e n c : Nat} {A : Option Addr} {v : Value} {us : List Value} (h : w.ownsRow B e 1 v n us) (hv : v = .slice A n c) : Row1 w A n us := by
  obtain ⟨A', c', hv', hr, _⟩ := owns_slice h
  rw [hv] at hv'
  rw [(Value.slice.inj hv').1]
  exact hr
theorem index_rs {d : WD} {B m : Nat} {w : World} {R : Nat → Option RecO} {X : Nat → Option ScxO} {rs fs xs : List Nat} {v1 v2 v3 : Value} (h : LiveAt d B m w R X rs fs xs v1 v2 v3) {A : Option Addr} {c : Nat} (hv : v1 = .slice A rs.length c) (hl : rs.length ≤ 1000000) (x : Option Nat) (hx : Ok R x) :
    Calls Try.prog 93 #[.slice A rs.length c, pv x] w fun e w' => e = .returned (.int .i64 (idx (rs.map some) x)) ∧ w = w' := by
  have hr := row_of_slice h.made.o1 hv
  have := index_PRecordint A c (rs.map some) x w (by rw [List.length_map, List.map_map]; exact hr) (fun p hp => by
    obtain ⟨b, hb, rfl⟩ := List.mem_map.1 hp
    obtain ⟨i, hi⟩ := List.getElem?_of_mem hb
    obtain ⟨fb, h1, _⟩ := h.stage.r i b hi
    exact (h.stage.rep.recPtr (Ok.of h1)).known) (h.stage.rep.recPtr hx).known (by simp; omega)
  simpa using this
theorem index_xs {d : WD} {B m : Nat} {w : World} {R : Nat → Option RecO} {X : Nat → Option ScxO} {rs fs xs : List Nat} {v1 v2 v3 : Value} (h : LiveAt d B m w R X rs fs xs v1 v2 v3) {A : Option Addr} {c : Nat} (hv : v3 = .slice A xs.length c) (hl : xs.length ≤ 1000000) (x : Option Nat) (hx : Ok X x) :
    Calls Try.prog 96 #[.slice A xs.length c, pv x] w fun e w' => e = .returned (.int .i64 (idx (xs.map some) x)) ∧ w = w' := by
  have hr := row_of_slice h.made.o3 hv
  have := index_PScxint A c (xs.map some) x w (by rw [List.length_map, List.map_map]; exact hr) (fun p hp => by
    obtain ⟨b, hb, rfl⟩ := List.mem_map.1 hp
    obtain ⟨i, hi⟩ := List.getElem?_of_mem hb
    obtain ⟨fb, h1, _⟩ := h.stage.x i b hi
    exact (h.stage.rep.scxPtr (Ok.of h1)).known) (h.stage.rep.scxPtr hx).known (by simp; omega)
  simpa using this
theorem get_of_getD {α : Type} {l : List α} {i : Nat} (h : i < l.length) (x : α) : l[i]? = some (l.getD i x) := by simp [List.getD_eq_getElem?_getD, List.getElem?_eq_getElem h]
theorem getD_map {α β : Type} (f : α → β) (l : List α) (i : Nat) (x : α) (y : β) (h : i < l.length) : (l.map f).getD i y = f (l.getD i x) := by
  simp [List.getD_eq_getElem?_getD, List.getElem?_eq_getElem h]

set_option maxHeartbeats 400000 in
set_option maxRecDepth 100000 in
theorem do_1 {d : WD} {B m : Nat} {w : World} {R : Nat → Option RecO} {X : Nat → Option ScxO} {rs fs xs : List Nat} {v1 v2 v3 : Value} {g : Option Nat} {ks : List Int} (h : LiveAt d B m w R X rs fs xs v1 v2 v3) (hfo : d.Form) (hg : GAtI w B g ks) (hbB : B ≤ w.heap.size) (hl : ks.length ≤ 1000000000)
    (i : Nat) (a b c : Int) (f : d.Fit 1 i a b c) :
    Calls Try.prog 41 #[.pointer (some ⟨m, 0, none⟩), gvI g, .agg #[.int .i64 1, .int .i64 i, .int .i64 a, .int .i64 b, .int .i64 c]] w fun e w' =>
      e = .returned (.int .i64 (doD d 1 i a b c).1) ∧ StepI B g w w' (ks ++ [kd 1]) (Thing B w) ∧ ∃ R' X', LiveAt (doD d 1 i a b c).2 B m w' R' X' rs fs xs v1 v2 v3 := by
  refine calls_hide fun Q HQ => ?_
  have HQ' := Lib.hid HQ
  have hi : i < d.fields.length := by have := f.row (by omega); simpa using this
  obtain ⟨q, fb, hq, hR, hfb⟩ := h.row hi
  obtain ⟨b0, k0, hv, hcell⟩ := owns_at h.made.o1 (j := i) (by have := h.hr; omega)
  rw [hq] at hcell
  have hcell1 : _ = some (Value.pointer (some ⟨q, 0, none⟩)) := hcell
  have hm : w.cell? ⟨m, 0, none⟩ = some v1 := by rw [h.made.blk.cell]; rfl
  have hrl : i < rs.length := by have := h.hr; omega
  have hl0 := World.block_lt_of_cell? w _ hm
  have hl1 := World.block_lt_of_cell? w _ hcell
  have HH := Lib.hid h
  have HF := Lib.hid hfo
  have HG := Lib.hid hg
  have HFi := Lib.hid f
  have HHR := Lib.hid hR
  have HHQ := Lib.hid hq
  rw [hv] at hm
  clear HQ h hfo hg f hR hq hcell
  go_enter Try.func41, Try.ntmps41
  go_wp2_with fail
  have hbl := Blk.new w 65 [.int .i64 1, .int .i64 i, .int .i64 a, .int .i64 b, .int .i64 c]
  have hm2 := (World.cell?_alloc_lt w (.cells #[.int .i64 1, .int .i64 i, .int .i64 a, .int .i64 b, .int .i64 c] 65) _ hl0).trans hm
  have hc2 := (World.cell?_alloc_lt w (.cells #[.int .i64 1, .int .i64 i, .int .i64 a, .int .i64 b, .int .i64 c] 65) _ hl1).trans hcell1
  have hbA := ((Below.refl w.heap.size w).alloc (Nat.le_refl _) (.cells #[.int .i64 1, .int .i64 i, .int .i64 a, .int .i64 b, .int .i64 c] 65))
  have ha0 := hbl.cell 0
  have ha1 := hbl.cell 1
  have ha2 := hbl.cell 2
  have ha3 := hbl.cell 3
  have ha4 := hbl.cell 4
  simp only [List.getElem?_cons_zero, List.getElem?_cons_succ] at ha0 ha1 ha2 ha3 ha4
  have HBl := Lib.hid hbl
  clear hm hcell1 hbl
  generalize w.alloc (.cells #[.int .i64 1, .int .i64 i, .int .i64 a, .int .i64 b, .int .i64 c] 65) = wA at *
  refine wp_region_still_tail 8 (by kernel_rfl) (by kernel_rfl) ?_
  simp only [List.take_succ_cons, List.take_zero, List.drop_succ_cons, List.drop_zero]
  iterate 8 still_step
  refine wpStill_nil ?_
  change wpList _ _ _ _ _ wA.drew
  have HBA := Lib.hid hbA.drew
  have HBl2 := Lib.hid (show Blk wA.drew w.heap.size 65 _ from HBl.out)
  clear hm2 hc2 HBl hbA ha0 ha1 ha2 ha3 ha4
  generalize wA.drew = wz at *
  have ha0 := HBl2.out.cell 0
  have ha1 := HBl2.out.cell 1
  have ha2 := HBl2.out.cell 2
  have ha3 := HBl2.out.cell 3
  have ha4 := HBl2.out.cell 4
  simp only [List.getElem?_cons_zero, List.getElem?_cons_succ] at ha0 ha1 ha2 ha3 ha4
  have HZ := Lib.hid (HH.out.below HBA.out)
  have HGZ := Lib.hid (gstep_below HG.out HBA.out).gate
  have hbBz : B ≤ wz.heap.size := Nat.le_trans hbB HBA.out.size
  have HV := Lib.hid hv
  clear hv
  have hO : ((d.fields.getD i []).map (rp rs)).length = (d.fields.getD i []).length := by simp
  have hm3 : wz.cell? ⟨m, 0, none⟩ = some (.slice (some ⟨b0, 0, none⟩) rs.length k0) := by rw [HZ.out.made.blk.cell, HV.out]; rfl
  go_wp2_with fail
  have HZ2 := Lib.hid (HZ.out.below (Below.refl wz.heap.size wz).drew)
  have HG2 := Lib.hid (gstep_below HGZ.out (Below.refl wz.heap.size wz).drew).gate
  have HBA2 := Lib.hid HBA.out.drew
  have hA := HFi.out.a0 (.inl rfl)
  have hA2 : a.toNat < (d.fields.getD i []).length := by have := hA.1; have := hA.2; rw [Int.toNat_natCast] at this; omega
  have hX := get_int B g ks R X wz.drew HZ2.out.stage.rep HG2.out hbBz hl q _ HHR.out a hA.1 (by simpa using hA.2)
  have hp1 : Ok R (((d.fields.getD i []).map (rp rs)).getD a.toNat none) := HZ2.out.stage.rep.okField HHR.out (i := a.toNat) (get_of_getD (by rw [hO]; exact hA2) none)
  have hp2 : idx (rs.map some) (((d.fields.getD i []).map (rp rs)).getD a.toNat none) = (doD d 1 i a b c).1 := by
    have hn := HF.out.hF _ (getD_mem hi []) _ (getD_mem hA2 0)
    rw [getD_map _ _ _ 0 _ hA2, idx_rp HZ.out.stage.ndr hn.1 (by have := HZ.out.hr; omega)]
    rfl
  simp only at hX
  generalize ((d.fields.getD i []).map (rp rs)).getD a.toNat none = p at *
  have HX := Lib.hid hX
  have HP1 := Lib.hid hp1
  have HP2 := Lib.hid hp2
  have hm4 : wz.drew.cell? ⟨m, 0, none⟩ = some (.slice (some ⟨b0, 0, none⟩) rs.length k0) := hm3
  have hm6 : wz.drew.cell? ⟨w.heap.size, 2, none⟩ = some (.int .i64 a) := ha2
  have HBl3 := Lib.hid (show Blk wz.drew w.heap.size 65 _ from HBl2.out)
  clear hX hp1 hp2 hA hA2 hO
  go_region_held3 (fun w' => w'.cell? ⟨m, 0, none⟩ = some (.slice (some ⟨b0, 0, none⟩) rs.length k0) ∧ w'.cell? ⟨w.heap.size, 2, none⟩ = some (.int .i64 a)) (exact ⟨by assumption, by assumption⟩) (first
    | (go_at_call 94; refine HX.out.mono ?_; rintro e w1 ⟨rfl, H1, H2⟩
       have HL := Lib.hid (HZ2.out.same HG2.out H1 H2); have H1' := Lib.hid H1
       have hm5 : w1.cell? ⟨m, 0, none⟩ = some (.slice (some ⟨b0, 0, none⟩) rs.length k0) := by rw [HL.out.made.blk.cell, HV.out]; rfl
       have hm7 : w1.cell? ⟨w.heap.size, 2, none⟩ = some (.int .i64 a) := by rw [(H1.blk HG2.out HBl3.out (by decide) (by decide) (fun h => h)).cell]; rfl
       clear H1 H2)
    | (go_at_call 93
       refine (index_rs HL.out HV.out (by have := HL.out.hr; have := HF.out.l0; omega) _ HP1.out).mono ?_
       rw [HP2.out]
       rintro e w2 ⟨rfl, rfl⟩))
  go_wp2
  exact HQ'.out _ _ ⟨rfl, act_end HG.out HBA2.out H1'.out (fun _ h => h.elim), R, X, HL.out⟩

set_option maxHeartbeats 400000 in
set_option maxRecDepth 100000 in
theorem do_2 {d : WD} {B m : Nat} {w : World} {R : Nat → Option RecO} {X : Nat → Option ScxO} {rs fs xs : List Nat} {v1 v2 v3 : Value} {g : Option Nat} {ks : List Int} (h : LiveAt d B m w R X rs fs xs v1 v2 v3) (hfo : d.Form) (hg : GAtI w B g ks) (hbB : B ≤ w.heap.size) (hl : ks.length ≤ 1000000000)
    (i : Nat) (a b c : Int) (f : d.Fit 2 i a b c) :
    Calls Try.prog 41 #[.pointer (some ⟨m, 0, none⟩), gvI g, .agg #[.int .i64 2, .int .i64 i, .int .i64 a, .int .i64 b, .int .i64 c]] w fun e w' =>
      e = .returned (.int .i64 (doD d 2 i a b c).1) ∧ StepI B g w w' (ks ++ [kd 2]) (Thing B w) ∧ ∃ R' X', LiveAt (doD d 2 i a b c).2 B m w' R' X' rs fs xs v1 v2 v3 := by
  refine calls_hide fun Q HQ => ?_
  have HQ' := Lib.hid HQ
  have hi : i < d.fields.length := by have := f.row (by omega); simpa using this
  obtain ⟨q, fb, hq, hR, hfb⟩ := h.row hi
  obtain ⟨b0, k0, hv, hcell⟩ := owns_at h.made.o1 (j := i) (by have := h.hr; omega)
  rw [hq] at hcell
  have hcell1 : _ = some (Value.pointer (some ⟨q, 0, none⟩)) := hcell
  have hm : w.cell? ⟨m, 0, none⟩ = some v1 := by rw [h.made.blk.cell]; rfl
  have hrl : i < rs.length := by have := h.hr; omega
  have hl0 := World.block_lt_of_cell? w _ hm
  have hl1 := World.block_lt_of_cell? w _ hcell
  have HH := Lib.hid h
  have HF := Lib.hid hfo
  have HG := Lib.hid hg
  have HFi := Lib.hid f
  have HHR := Lib.hid hR
  have HHQ := Lib.hid hq
  rw [hv] at hm
  clear HQ h hfo hg f hR hq hcell
  go_enter Try.func41, Try.ntmps41
  go_wp2_with fail
  have hbl := Blk.new w 65 [.int .i64 2, .int .i64 i, .int .i64 a, .int .i64 b, .int .i64 c]
  have hm2 := (World.cell?_alloc_lt w (.cells #[.int .i64 2, .int .i64 i, .int .i64 a, .int .i64 b, .int .i64 c] 65) _ hl0).trans hm
  have hc2 := (World.cell?_alloc_lt w (.cells #[.int .i64 2, .int .i64 i, .int .i64 a, .int .i64 b, .int .i64 c] 65) _ hl1).trans hcell1
  have hbA := ((Below.refl w.heap.size w).alloc (Nat.le_refl _) (.cells #[.int .i64 2, .int .i64 i, .int .i64 a, .int .i64 b, .int .i64 c] 65))
  have ha0 := hbl.cell 0
  have ha1 := hbl.cell 1
  have ha2 := hbl.cell 2
  have ha3 := hbl.cell 3
  have ha4 := hbl.cell 4
  simp only [List.getElem?_cons_zero, List.getElem?_cons_succ] at ha0 ha1 ha2 ha3 ha4
  have HBl := Lib.hid hbl
  clear hm hcell1 hbl
  generalize w.alloc (.cells #[.int .i64 2, .int .i64 i, .int .i64 a, .int .i64 b, .int .i64 c] 65) = wA at *
  refine wp_region_still_tail 8 (by kernel_rfl) (by kernel_rfl) ?_
  simp only [List.take_succ_cons, List.take_zero, List.drop_succ_cons, List.drop_zero]
  iterate 8 still_step
  refine wpStill_nil ?_
  change wpList _ _ _ _ _ wA.drew
  have HBA := Lib.hid hbA.drew
  have HBl2 := Lib.hid (show Blk wA.drew w.heap.size 65 _ from HBl.out)
  clear hm2 hc2 HBl hbA ha0 ha1 ha2 ha3 ha4
  generalize wA.drew = wz at *
  have ha0 := HBl2.out.cell 0
  have ha1 := HBl2.out.cell 1
  have ha2 := HBl2.out.cell 2
  have ha3 := HBl2.out.cell 3
  have ha4 := HBl2.out.cell 4
  simp only [List.getElem?_cons_zero, List.getElem?_cons_succ] at ha0 ha1 ha2 ha3 ha4
  have HZ := Lib.hid (HH.out.below HBA.out)
  have HGZ := Lib.hid (gstep_below HG.out HBA.out).gate
  have hbBz : B ≤ wz.heap.size := Nat.le_trans hbB HBA.out.size
  have HV := Lib.hid hv
  clear hv
  have hO : ((d.fields.getD i []).map (rp rs)).length = (d.fields.getD i []).length := by simp
  have hm3 : wz.cell? ⟨m, 0, none⟩ = some (.slice (some ⟨b0, 0, none⟩) rs.length k0) := by rw [HZ.out.made.blk.cell, HV.out]; rfl
  go_wp2_with fail
  have HZ2 := Lib.hid (HZ.out.below (Below.refl wz.heap.size wz).drew)
  have HG2 := Lib.hid (gstep_below HGZ.out (Below.refl wz.heap.size wz).drew).gate
  have HBA2 := Lib.hid HBA.out.drew
  have hA := HFi.out.a0 (.inr rfl)
  have hB := HFi.out.b0 rfl
  have hA2 : a.toNat < (d.fields.getD i []).length := by have := hA.1; have := hA.2; rw [Int.toNat_natCast] at this; omega
  have hX := swing_int B g ks R X wz.drew HZ2.out.stage.rep HG2.out hbBz hl q _ HHR.out a hA.1 (by simpa using hA.2) (rp rs b) (rp rs c) (HZ2.out.stage.okR b) (HZ2.out.stage.okR c)
  have HLB := Lib.hid (calls_swap (live_record wz.drew B m rs fs xs _ _ _ HZ2.out.made b hB.1.1 (by have := HZ.out.hr; have := hB.1.2; omega)))
  have HLC := Lib.hid (calls_swap (live_record wz.drew B m rs fs xs _ _ _ HZ2.out.made c hB.2.1 (by have := HZ.out.hr; have := hB.2.2; omega)))
  have hn := HF.out.hF _ (getD_mem hi []) _ (getD_mem hA2 0)
  have hp2 : bitI (decide (((d.fields.getD i []).map (rp rs)).getD a.toNat none = rp rs b)) = (doD d 2 i a b c).1 ∧ ∀ k, ((doD d 2 i a b c).2.fields.getD k []).map (rp rs) = if k = i then (if ((d.fields.getD i []).map (rp rs)).getD a.toNat none = rp rs b then ((d.fields.getD i []).map (rp rs)).set a.toNat (rp rs c) else (d.fields.getD i []).map (rp rs)) else (d.fields.getD k []).map (rp rs) := by
    have hl2 := HZ.out.hr
    have e : ((d.fields.getD i []).map (rp rs)).getD a.toNat none = rp rs b ↔ (d.fields.getD i []).getD a.toNat 0 = b := by
      rw [getD_map _ _ _ 0 _ hA2]
      exact rp_inj HZ.out.stage.ndr hn.1 (by omega) hB.1.1 (by have := hB.1.2; omega)
    simp only [e]
    simp only [doD, show ¬ (2 : Int) = 1 by decide, if_false, if_true, Int.toNat_natCast]
    by_cases e2 : (d.fields.getD i []).getD a.toNat 0 = b
    · simp only [e2, if_true, decide_true]
      exact ⟨rfl, fun k => by rw [getD_set _ _ _ _ _ hi]; split <;> simp [List.map_set]⟩
    · simp only [e2, if_false, decide_false]
      exact ⟨rfl, fun k => by split <;> simp_all⟩
  have hl3 : (doD d 2 i a b c).2.fields.length = d.fields.length ∧ (doD d 2 i a b c).2.infos = d.infos ∧ (doD d 2 i a b c).2.marks = d.marks ∧ (doD d 2 i a b c).2.states = d.states ∧ (doD d 2 i a b c).2.frozen = d.frozen := by
    simp only [doD, show ¬ (2 : Int) = 1 by decide, if_false, if_true]
    split <;> simp
  simp only at hX
  have HD2 := Lib.hid hp2
  have HL3 := Lib.hid hl3
  clear hp2 hl3
  have HX := Lib.hid hX
  clear hX hA hB hn hO
  refine wp_region_still_tail 12 (by kernel_rfl) (by kernel_rfl) ?_
  simp only [List.take_succ_cons, List.take_zero, List.drop_succ_cons, List.drop_zero]
  iterate 7 still_step
  still_call (HLB.out)
  iterate 3 still_step
  still_call (HLC.out)
  refine wpStill_nil ?_
  change wpList _ _ _ _ _ wz.drew
  clear ha0 ha1 ha2 ha3 ha4 hm3 HLB HLC
  generalize wz.drew = wy at *
  go_wp2_with fail
  refine HX.out.mono ?_
  rintro e w1 ⟨rfl, H1, H2⟩
  have HL := Lib.hid (HZ2.out.setRec (d' := (doD d 2 i a b c).2) HG2.out HHQ.out HHR.out (.inr rfl) H1 H2 HL3.out.1 HL3.out.2.2.2.1 HL3.out.2.2.2.2 HD2.out.2 (fun k => by rw [HL3.out.2.1]; split <;> simp_all) (fun k => by rw [HL3.out.2.2.1]; split <;> simp_all))
  have HEND := Lib.hid (act_end HG.out HBA2.out H1 (fun k h => h ▸ (HZ2.out.thingR HHQ.out HHR.out).2))
  have HD3 := Lib.hid HD2.out.1
  clear H1 H2 HX HD2 HL3
  generalize decide (((d.fields.getD i []).map (rp rs)).getD a.toNat none = rp rs b) = dd at *
  go_wp2_with fail
  refine (bit_of _ _).mono ?_
  rw [HD3.out]
  rintro e w2 ⟨rfl, rfl⟩
  go_wp2
  exact HQ'.out _ _ ⟨rfl, HEND.out, _, _, HL.out⟩

set_option maxHeartbeats 400000 in
set_option maxRecDepth 100000 in
theorem do_3 {d : WD} {B m : Nat} {w : World} {R : Nat → Option RecO} {X : Nat → Option ScxO} {rs fs xs : List Nat} {v1 v2 v3 : Value} {g : Option Nat} {ks : List Int} (h : LiveAt d B m w R X rs fs xs v1 v2 v3) (hfo : d.Form) (hg : GAtI w B g ks) (hbB : B ≤ w.heap.size) (hl : ks.length ≤ 1000000000)
    (i : Nat) (a b c : Int) (f : d.Fit 3 i a b c) :
    Calls Try.prog 41 #[.pointer (some ⟨m, 0, none⟩), gvI g, .agg #[.int .i64 3, .int .i64 i, .int .i64 a, .int .i64 b, .int .i64 c]] w fun e w' =>
      e = .returned (.int .i64 (doD d 3 i a b c).1) ∧ StepI B g w w' (ks ++ [kd 3]) (Thing B w) ∧ ∃ R' X', LiveAt (doD d 3 i a b c).2 B m w' R' X' rs fs xs v1 v2 v3 := by
  refine calls_hide fun Q HQ => ?_
  have HQ' := Lib.hid HQ
  have hi : i < d.fields.length := by have := f.row (by omega); simpa using this
  obtain ⟨q, fb, hq, hR, hfb⟩ := h.row hi
  obtain ⟨b0, k0, hv, hcell⟩ := owns_at h.made.o1 (j := i) (by have := h.hr; omega)
  rw [hq] at hcell
  have hcell1 : _ = some (Value.pointer (some ⟨q, 0, none⟩)) := hcell
  have hm : w.cell? ⟨m, 0, none⟩ = some v1 := by rw [h.made.blk.cell]; rfl
  have hrl : i < rs.length := by have := h.hr; omega
  have hl0 := World.block_lt_of_cell? w _ hm
  have hl1 := World.block_lt_of_cell? w _ hcell
  have HH := Lib.hid h
  have HF := Lib.hid hfo
  have HG := Lib.hid hg
  have HFi := Lib.hid f
  have HHR := Lib.hid hR
  have HHQ := Lib.hid hq
  rw [hv] at hm
  clear HQ h hfo hg f hR hq hcell
  go_enter Try.func41, Try.ntmps41
  go_wp2_with fail
  have hbl := Blk.new w 65 [.int .i64 3, .int .i64 i, .int .i64 a, .int .i64 b, .int .i64 c]
  have hm2 := (World.cell?_alloc_lt w (.cells #[.int .i64 3, .int .i64 i, .int .i64 a, .int .i64 b, .int .i64 c] 65) _ hl0).trans hm
  have hc2 := (World.cell?_alloc_lt w (.cells #[.int .i64 3, .int .i64 i, .int .i64 a, .int .i64 b, .int .i64 c] 65) _ hl1).trans hcell1
  have hbA := ((Below.refl w.heap.size w).alloc (Nat.le_refl _) (.cells #[.int .i64 3, .int .i64 i, .int .i64 a, .int .i64 b, .int .i64 c] 65))
  have ha0 := hbl.cell 0
  have ha1 := hbl.cell 1
  have ha2 := hbl.cell 2
  have ha3 := hbl.cell 3
  have ha4 := hbl.cell 4
  simp only [List.getElem?_cons_zero, List.getElem?_cons_succ] at ha0 ha1 ha2 ha3 ha4
  have HBl := Lib.hid hbl
  clear hm hcell1 hbl
  generalize w.alloc (.cells #[.int .i64 3, .int .i64 i, .int .i64 a, .int .i64 b, .int .i64 c] 65) = wA at *
  refine wp_region_still_tail 8 (by kernel_rfl) (by kernel_rfl) ?_
  simp only [List.take_succ_cons, List.take_zero, List.drop_succ_cons, List.drop_zero]
  iterate 8 still_step
  refine wpStill_nil ?_
  change wpList _ _ _ _ _ wA.drew
  have HBA := Lib.hid hbA.drew
  have HBl2 := Lib.hid (show Blk wA.drew w.heap.size 65 _ from HBl.out)
  clear hm2 hc2 HBl hbA ha0 ha1 ha2 ha3 ha4
  generalize wA.drew = wz at *
  have ha0 := HBl2.out.cell 0
  have ha1 := HBl2.out.cell 1
  have ha2 := HBl2.out.cell 2
  have ha3 := HBl2.out.cell 3
  have ha4 := HBl2.out.cell 4
  simp only [List.getElem?_cons_zero, List.getElem?_cons_succ] at ha0 ha1 ha2 ha3 ha4
  have HZ := Lib.hid (HH.out.below HBA.out)
  have HGZ := Lib.hid (gstep_below HG.out HBA.out).gate
  have hbBz : B ≤ wz.heap.size := Nat.le_trans hbB HBA.out.size
  have HV := Lib.hid hv
  clear hv
  have hO : ((d.fields.getD i []).map (rp rs)).length = (d.fields.getD i []).length := by simp
  have hm3 : wz.cell? ⟨m, 0, none⟩ = some (.slice (some ⟨b0, 0, none⟩) rs.length k0) := by rw [HZ.out.made.blk.cell, HV.out]; rfl
  go_wp2_with fail
  have HZ2 := Lib.hid (HZ.out.below (Below.refl wz.heap.size wz).drew)
  have HG2 := Lib.hid (gstep_below HGZ.out (Below.refl wz.heap.size wz).drew).gate
  have HBA2 := Lib.hid HBA.out.drew
  obtain ⟨A3, k3, hv3, hr3, _⟩ := owns_slice HZ2.out.made.o3
  have hX := info_int B g ks R X wz.drew HZ2.out.stage.rep HG2.out hbBz hl q _ HHR.out
  have hp1 : Ok X (ip fs xs i (d.infos.getD i 0)) := HZ2.out.stage.rep.okInfo HHR.out
  have hp2 : idx (xs.map some) (ip fs xs i (d.infos.getD i 0)) = (doD d 3 i a b c).1 := by
    have hfo := HF.out
    have hn := hfo.hI _ (getD_mem (show i < d.infos.length by rw [hfo.e1]; exact hi) 0)
    rw [idx_ip HZ.out.stage.ndx (by omega) (by have := HZ.out.hr; have := HZ.out.stage.len; omega) hn.1 (by have := HZ.out.hx; omega)]
    rfl
  simp only at hX
  generalize ip fs xs i (d.infos.getD i 0) = p at *
  have HX := Lib.hid hX
  have HP1 := Lib.hid hp1
  have HP2 := Lib.hid hp2
  have hm4 : wz.drew.cell? ⟨m, 2, none⟩ = some (.slice A3 xs.length k3) := by rw [HZ2.out.made.blk.cell, hv3]; rfl
  have HV3 := Lib.hid hv3
  clear hX hp1 hp2 hv3 hr3 hO
  go_region_held3 (fun w' => w'.cell? ⟨m, 2, none⟩ = some (.slice A3 xs.length k3)) (assumption) (first
    | (go_at_call 71; refine HX.out.mono ?_; rintro e w1 ⟨rfl, H1, H2⟩
       have HL := Lib.hid (HZ2.out.same HG2.out H1 H2); have H1' := Lib.hid H1
       have hm5 : w1.cell? ⟨m, 2, none⟩ = some (.slice A3 xs.length k3) := by rw [HL.out.made.blk.cell, HV3.out]; rfl
       clear H1 H2)
    | (go_at_call 96
       refine (index_xs HL.out HV3.out (by have := HL.out.hx; have := HF.out.l3; omega) _ HP1.out).mono ?_
       rw [HP2.out]
       rintro e w2 ⟨rfl, rfl⟩))
  go_wp2
  exact HQ'.out _ _ ⟨rfl, act_end HG.out HBA2.out H1'.out (fun _ h => h.elim), R, X, HL.out⟩

set_option maxHeartbeats 400000 in
set_option maxRecDepth 100000 in
theorem do_4 {d : WD} {B m : Nat} {w : World} {R : Nat → Option RecO} {X : Nat → Option ScxO} {rs fs xs : List Nat} {v1 v2 v3 : Value} {g : Option Nat} {ks : List Int} (h : LiveAt d B m w R X rs fs xs v1 v2 v3) (hfo : d.Form) (hg : GAtI w B g ks) (hbB : B ≤ w.heap.size) (hl : ks.length ≤ 1000000000)
    (i : Nat) (a b c : Int) (f : d.Fit 4 i a b c) :
    Calls Try.prog 41 #[.pointer (some ⟨m, 0, none⟩), gvI g, .agg #[.int .i64 4, .int .i64 i, .int .i64 a, .int .i64 b, .int .i64 c]] w fun e w' =>
      e = .returned (.int .i64 (doD d 4 i a b c).1) ∧ StepI B g w w' (ks ++ [kd 4]) (Thing B w) ∧ ∃ R' X', LiveAt (doD d 4 i a b c).2 B m w' R' X' rs fs xs v1 v2 v3 := by
  refine calls_hide fun Q HQ => ?_
  have HQ' := Lib.hid HQ
  have hi : i < d.fields.length := by have := f.row (by omega); simpa using this
  obtain ⟨q, fb, hq, hR, hfb⟩ := h.row hi
  obtain ⟨b0, k0, hv, hcell⟩ := owns_at h.made.o1 (j := i) (by have := h.hr; omega)
  rw [hq] at hcell
  have hcell1 : _ = some (Value.pointer (some ⟨q, 0, none⟩)) := hcell
  have hm : w.cell? ⟨m, 0, none⟩ = some v1 := by rw [h.made.blk.cell]; rfl
  have hrl : i < rs.length := by have := h.hr; omega
  have hl0 := World.block_lt_of_cell? w _ hm
  have hl1 := World.block_lt_of_cell? w _ hcell
  have HH := Lib.hid h
  have HF := Lib.hid hfo
  have HG := Lib.hid hg
  have HFi := Lib.hid f
  have HHR := Lib.hid hR
  have HHQ := Lib.hid hq
  rw [hv] at hm
  clear HQ h hfo hg f hR hq hcell
  go_enter Try.func41, Try.ntmps41
  go_wp2_with fail
  have hbl := Blk.new w 65 [.int .i64 4, .int .i64 i, .int .i64 a, .int .i64 b, .int .i64 c]
  have hm2 := (World.cell?_alloc_lt w (.cells #[.int .i64 4, .int .i64 i, .int .i64 a, .int .i64 b, .int .i64 c] 65) _ hl0).trans hm
  have hc2 := (World.cell?_alloc_lt w (.cells #[.int .i64 4, .int .i64 i, .int .i64 a, .int .i64 b, .int .i64 c] 65) _ hl1).trans hcell1
  have hbA := ((Below.refl w.heap.size w).alloc (Nat.le_refl _) (.cells #[.int .i64 4, .int .i64 i, .int .i64 a, .int .i64 b, .int .i64 c] 65))
  have ha0 := hbl.cell 0
  have ha1 := hbl.cell 1
  have ha2 := hbl.cell 2
  have ha3 := hbl.cell 3
  have ha4 := hbl.cell 4
  simp only [List.getElem?_cons_zero, List.getElem?_cons_succ] at ha0 ha1 ha2 ha3 ha4
  have HBl := Lib.hid hbl
  clear hm hcell1 hbl
  generalize w.alloc (.cells #[.int .i64 4, .int .i64 i, .int .i64 a, .int .i64 b, .int .i64 c] 65) = wA at *
  refine wp_region_still_tail 8 (by kernel_rfl) (by kernel_rfl) ?_
  simp only [List.take_succ_cons, List.take_zero, List.drop_succ_cons, List.drop_zero]
  iterate 8 still_step
  refine wpStill_nil ?_
  change wpList _ _ _ _ _ wA.drew
  have HBA := Lib.hid hbA.drew
  have HBl2 := Lib.hid (show Blk wA.drew w.heap.size 65 _ from HBl.out)
  clear hm2 hc2 HBl hbA ha0 ha1 ha2 ha3 ha4
  generalize wA.drew = wz at *
  have ha0 := HBl2.out.cell 0
  have ha1 := HBl2.out.cell 1
  have ha2 := HBl2.out.cell 2
  have ha3 := HBl2.out.cell 3
  have ha4 := HBl2.out.cell 4
  simp only [List.getElem?_cons_zero, List.getElem?_cons_succ] at ha0 ha1 ha2 ha3 ha4
  have HZ := Lib.hid (HH.out.below HBA.out)
  have HGZ := Lib.hid (gstep_below HG.out HBA.out).gate
  have hbBz : B ≤ wz.heap.size := Nat.le_trans hbB HBA.out.size
  have HV := Lib.hid hv
  clear hv
  have hO : ((d.fields.getD i []).map (rp rs)).length = (d.fields.getD i []).length := by simp
  have hm3 : wz.cell? ⟨m, 0, none⟩ = some (.slice (some ⟨b0, 0, none⟩) rs.length k0) := by rw [HZ.out.made.blk.cell, HV.out]; rfl
  go_wp2_with fail
  have HZ2 := Lib.hid (HZ.out.below (Below.refl wz.heap.size wz).drew)
  have HG2 := Lib.hid (gstep_below HGZ.out (Below.refl wz.heap.size wz).drew).gate
  have HBA2 := Lib.hid HBA.out.drew
  have hB := HFi.out.b1 rfl
  have hfl : fs.length = rs.length := HZ.out.stage.len
  obtain ⟨sc, hsc⟩ : ∃ s, xs[c.toNat]? = some s := ⟨xs[c.toNat]'(by have := HZ.out.hx; omega), List.getElem?_eq_getElem _⟩
  have hipc : ip fs xs i c = some sc := by unfold ip; rw [if_neg (by omega)]; exact hsc
  have hX := freeze_int B g ks R X wz.drew HZ2.out.stage.rep HG2.out hbBz hl q _ HHR.out (ip fs xs i b) (ip fs xs i c) (by unfold ip; split; exact HZ2.out.stage.okF _; exact HZ2.out.stage.okX _) (by unfold ip; split; exact HZ2.out.stage.okF _; exact HZ2.out.stage.okX _)
  have HLB := Lib.hid (calls_swap (live_info wz.drew B m rs fs xs _ _ _ HZ2.out.made i b (by omega) (by omega) hB.1.1 (by have := HZ.out.hx; have := hB.1.2; omega)))
  have hn := HF.out.hI _ (getD_mem (show i < d.infos.length by rw [HF.out.e1]; exact hi) 0)
  have hp2 : bitI (decide (ip fs xs i (d.infos.getD i 0) = ip fs xs i b)) = (doD d 4 i a b c).1 ∧ ∀ k : Nat, ip fs xs k ((doD d 4 i a b c).2.infos.getD k 0) = if k = i then (if ip fs xs i (d.infos.getD i 0) = ip fs xs i b then ip fs xs i c else ip fs xs i (d.infos.getD i 0)) else ip fs xs k (d.infos.getD k 0) := by
    have hl2 := HZ.out.hx
    have e : ip fs xs i (d.infos.getD i 0) = ip fs xs i b ↔ d.infos.getD i 0 = b := ip_inj HZ.out.stage.ndx (by omega) (by omega) hn.1 (by omega) hB.1.1 (by have := hB.1.2; omega)
    simp only [e]
    simp only [doD, show ¬ (4 : Int) = 1 by decide, show ¬ (4 : Int) = 2 by decide, show ¬ (4 : Int) = 3 by decide, if_false, if_true, Int.toNat_natCast]
    by_cases e2 : d.infos.getD i 0 = b
    · simp only [e2, if_true, decide_true]
      exact ⟨rfl, fun k => by rw [getD_set _ _ _ _ _ (by rw [HF.out.e1]; exact hi)]; split <;> simp_all⟩
    · simp only [e2, if_false, decide_false]
      exact ⟨rfl, fun k => by split <;> simp_all⟩
  have hl3 : (doD d 4 i a b c).2.fields = d.fields ∧ (doD d 4 i a b c).2.marks = d.marks ∧ (doD d 4 i a b c).2.states = d.states ∧ (doD d 4 i a b c).2.frozen = d.frozen := by
    simp only [doD, show ¬ (4 : Int) = 1 by decide, show ¬ (4 : Int) = 2 by decide, show ¬ (4 : Int) = 3 by decide, if_false, if_true]
    split <;> simp
  obtain ⟨b3, k3, hv3, hcell3⟩ := owns_at HZ2.out.made.o3 (j := c.toNat) (by have := HZ.out.hx; omega)
  rw [hsc] at hcell3
  have hcell4 : wz.drew.cell? ⟨b3, c.toNat, none⟩ = some (Value.pointer (some ⟨sc, 0, none⟩)) := hcell3
  have hm4 : wz.drew.cell? ⟨m, 2, none⟩ = some (.slice (some ⟨b3, 0, none⟩) xs.length k3) := by rw [HZ2.out.made.blk.cell, hv3]; rfl
  have hcl : c < xs.length := by have := HZ.out.hx; have := hB.2.2; omega
  have hc0 := hB.2.1
  rw [hipc] at hX hp2
  simp only at hX
  have HD2 := Lib.hid hp2
  have HL3 := Lib.hid hl3
  have HX := Lib.hid hX
  clear hp2 hl3 hX hB hn hO hcell3 hv3 hsc hipc hfl
  have hcell5 : wz.cell? ⟨b3, c.toNat, none⟩ = some (Value.pointer (some ⟨sc, 0, none⟩)) := hcell4
  have hm5 : wz.cell? ⟨m, 2, none⟩ = some (.slice (some ⟨b3, 0, none⟩) xs.length k3) := hm4
  clear hcell4 hm4
  refine wp_region_still_tail 16 (by kernel_rfl) (by kernel_rfl) ?_
  simp only [List.take_succ_cons, List.take_zero, List.drop_succ_cons, List.drop_zero]
  iterate 7 still_step
  still_call (HLB.out)
  iterate 8 still_step
  refine wpStill_nil ?_
  change wpList _ _ _ _ _ wz.drew
  clear ha0 ha1 ha2 ha3 ha4 hm3 HLB hcell5 hm5
  generalize wz.drew = wy at *
  go_wp2_with fail
  refine HX.out.mono ?_
  rintro e w1 ⟨rfl, H1, H2⟩
  have HL := Lib.hid (HZ2.out.setRec (d' := (doD d 4 i a b c).2) HG2.out HHQ.out HHR.out (.inl rfl) H1 H2 (by rw [HL3.out.1]) HL3.out.2.2.1 HL3.out.2.2.2 (fun k => by rw [HL3.out.1]; split <;> simp_all) HD2.out.2 (fun k => by rw [HL3.out.2.1]; split <;> simp_all))
  have HEND := Lib.hid (act_end HG.out HBA2.out H1 (fun k h => h ▸ (HZ2.out.thingR HHQ.out HHR.out).1))
  have HD3 := Lib.hid HD2.out.1
  clear H1 H2 HX HD2 HL3
  generalize decide (ip fs xs i (d.infos.getD i 0) = ip fs xs i b) = dd at *
  go_wp2_with fail
  refine (bit_of _ _).mono ?_
  rw [HD3.out]
  rintro e w2 ⟨rfl, rfl⟩
  go_wp2
  exact HQ'.out _ _ ⟨rfl, HEND.out, _, _, HL.out⟩

set_option maxHeartbeats 400000 in
set_option maxRecDepth 100000 in
theorem do_5 {d : WD} {B m : Nat} {w : World} {R : Nat → Option RecO} {X : Nat → Option ScxO} {rs fs xs : List Nat} {v1 v2 v3 : Value} {g : Option Nat} {ks : List Int} (h : LiveAt d B m w R X rs fs xs v1 v2 v3) (hfo : d.Form) (hg : GAtI w B g ks) (hbB : B ≤ w.heap.size) (hl : ks.length ≤ 1000000000)
    (i : Nat) (a b c : Int) (f : d.Fit 5 i a b c) :
    Calls Try.prog 41 #[.pointer (some ⟨m, 0, none⟩), gvI g, .agg #[.int .i64 5, .int .i64 i, .int .i64 a, .int .i64 b, .int .i64 c]] w fun e w' =>
      e = .returned (.int .i64 (doD d 5 i a b c).1) ∧ StepI B g w w' (ks ++ [kd 5]) (Thing B w) ∧ ∃ R' X', LiveAt (doD d 5 i a b c).2 B m w' R' X' rs fs xs v1 v2 v3 := by
  refine calls_hide fun Q HQ => ?_
  have HQ' := Lib.hid HQ
  have hi : i < d.fields.length := by have := f.row (by omega); simpa using this
  obtain ⟨q, fb, hq, hR, hfb⟩ := h.row hi
  obtain ⟨b0, k0, hv, hcell⟩ := owns_at h.made.o1 (j := i) (by have := h.hr; omega)
  rw [hq] at hcell
  have hcell1 : _ = some (Value.pointer (some ⟨q, 0, none⟩)) := hcell
  have hm : w.cell? ⟨m, 0, none⟩ = some v1 := by rw [h.made.blk.cell]; rfl
  have hrl : i < rs.length := by have := h.hr; omega
  have hl0 := World.block_lt_of_cell? w _ hm
  have hl1 := World.block_lt_of_cell? w _ hcell
  have HH := Lib.hid h
  have HF := Lib.hid hfo
  have HG := Lib.hid hg
  have HFi := Lib.hid f
  have HHR := Lib.hid hR
  have HHQ := Lib.hid hq
  rw [hv] at hm
  clear HQ h hfo hg f hR hq hcell
  go_enter Try.func41, Try.ntmps41
  go_wp2_with fail
  have hbl := Blk.new w 65 [.int .i64 5, .int .i64 i, .int .i64 a, .int .i64 b, .int .i64 c]
  have hm2 := (World.cell?_alloc_lt w (.cells #[.int .i64 5, .int .i64 i, .int .i64 a, .int .i64 b, .int .i64 c] 65) _ hl0).trans hm
  have hc2 := (World.cell?_alloc_lt w (.cells #[.int .i64 5, .int .i64 i, .int .i64 a, .int .i64 b, .int .i64 c] 65) _ hl1).trans hcell1
  have hbA := ((Below.refl w.heap.size w).alloc (Nat.le_refl _) (.cells #[.int .i64 5, .int .i64 i, .int .i64 a, .int .i64 b, .int .i64 c] 65))
  have ha0 := hbl.cell 0
  have ha1 := hbl.cell 1
  have ha2 := hbl.cell 2
  have ha3 := hbl.cell 3
  have ha4 := hbl.cell 4
  simp only [List.getElem?_cons_zero, List.getElem?_cons_succ] at ha0 ha1 ha2 ha3 ha4
  have HBl := Lib.hid hbl
  clear hm hcell1 hbl
  generalize w.alloc (.cells #[.int .i64 5, .int .i64 i, .int .i64 a, .int .i64 b, .int .i64 c] 65) = wA at *
  refine wp_region_still_tail 8 (by kernel_rfl) (by kernel_rfl) ?_
  simp only [List.take_succ_cons, List.take_zero, List.drop_succ_cons, List.drop_zero]
  iterate 8 still_step
  refine wpStill_nil ?_
  change wpList _ _ _ _ _ wA.drew
  have HBA := Lib.hid hbA.drew
  have HBl2 := Lib.hid (show Blk wA.drew w.heap.size 65 _ from HBl.out)
  clear hm2 hc2 HBl hbA ha0 ha1 ha2 ha3 ha4
  generalize wA.drew = wz at *
  have ha0 := HBl2.out.cell 0
  have ha1 := HBl2.out.cell 1
  have ha2 := HBl2.out.cell 2
  have ha3 := HBl2.out.cell 3
  have ha4 := HBl2.out.cell 4
  simp only [List.getElem?_cons_zero, List.getElem?_cons_succ] at ha0 ha1 ha2 ha3 ha4
  have HZ := Lib.hid (HH.out.below HBA.out)
  have HGZ := Lib.hid (gstep_below HG.out HBA.out).gate
  have hbBz : B ≤ wz.heap.size := Nat.le_trans hbB HBA.out.size
  have HV := Lib.hid hv
  clear hv
  have hO : ((d.fields.getD i []).map (rp rs)).length = (d.fields.getD i []).length := by simp
  have hm3 : wz.cell? ⟨m, 0, none⟩ = some (.slice (some ⟨b0, 0, none⟩) rs.length k0) := by rw [HZ.out.made.blk.cell, HV.out]; rfl
  go_wp2_with fail
  have HZ2 := Lib.hid (HZ.out.below (Below.refl wz.heap.size wz).drew)
  have HG2 := Lib.hid (gstep_below HGZ.out (Below.refl wz.heap.size wz).drew).gate
  have HBA2 := Lib.hid HBA.out.drew
  have HX := Lib.hid (marked_int B g ks R X wz HZ.out.stage.rep HGZ.out hbBz hl q _ HHR.out)
  clear ha0 ha1 ha2 ha3 ha4 hm3
  refine HX.out.mono ?_
  rintro e w1 ⟨rfl, H1, H2⟩
  have HL := Lib.hid (HZ.out.same HGZ.out H1 H2)
  have H1' := Lib.hid H1
  clear H1 H2 HX
  have HP2 := Lib.hid (show bitI (d.marks.getD i false) = (doD d 5 i a b c).1 from rfl)
  generalize d.marks.getD i false = mk at *
  go_wp2_with fail
  refine (bit_of _ _).mono ?_
  rw [HP2.out]
  rintro e w2 ⟨rfl, rfl⟩
  go_wp2
  exact HQ'.out _ _ ⟨rfl, act_end HG.out HBA.out H1'.out (fun _ h => h.elim), R, X, HL.out⟩

set_option maxHeartbeats 400000 in
set_option maxRecDepth 100000 in
theorem do_6 {d : WD} {B m : Nat} {w : World} {R : Nat → Option RecO} {X : Nat → Option ScxO} {rs fs xs : List Nat} {v1 v2 v3 : Value} {g : Option Nat} {ks : List Int} (h : LiveAt d B m w R X rs fs xs v1 v2 v3) (hfo : d.Form) (hg : GAtI w B g ks) (hbB : B ≤ w.heap.size) (hl : ks.length ≤ 1000000000)
    (i : Nat) (a b c : Int) (f : d.Fit 6 i a b c) :
    Calls Try.prog 41 #[.pointer (some ⟨m, 0, none⟩), gvI g, .agg #[.int .i64 6, .int .i64 i, .int .i64 a, .int .i64 b, .int .i64 c]] w fun e w' =>
      e = .returned (.int .i64 (doD d 6 i a b c).1) ∧ StepI B g w w' (ks ++ [kd 6]) (Thing B w) ∧ ∃ R' X', LiveAt (doD d 6 i a b c).2 B m w' R' X' rs fs xs v1 v2 v3 := by
  refine calls_hide fun Q HQ => ?_
  have HQ' := Lib.hid HQ
  have hi : i < d.fields.length := by have := f.row (by omega); simpa using this
  obtain ⟨q, fb, hq, hR, hfb⟩ := h.row hi
  obtain ⟨b0, k0, hv, hcell⟩ := owns_at h.made.o1 (j := i) (by have := h.hr; omega)
  rw [hq] at hcell
  have hcell1 : _ = some (Value.pointer (some ⟨q, 0, none⟩)) := hcell
  have hm : w.cell? ⟨m, 0, none⟩ = some v1 := by rw [h.made.blk.cell]; rfl
  have hrl : i < rs.length := by have := h.hr; omega
  have hl0 := World.block_lt_of_cell? w _ hm
  have hl1 := World.block_lt_of_cell? w _ hcell
  have HH := Lib.hid h
  have HF := Lib.hid hfo
  have HG := Lib.hid hg
  have HFi := Lib.hid f
  have HHR := Lib.hid hR
  have HHQ := Lib.hid hq
  rw [hv] at hm
  clear HQ h hfo hg f hR hq hcell
  go_enter Try.func41, Try.ntmps41
  go_wp2_with fail
  have hbl := Blk.new w 65 [.int .i64 6, .int .i64 i, .int .i64 a, .int .i64 b, .int .i64 c]
  have hm2 := (World.cell?_alloc_lt w (.cells #[.int .i64 6, .int .i64 i, .int .i64 a, .int .i64 b, .int .i64 c] 65) _ hl0).trans hm
  have hc2 := (World.cell?_alloc_lt w (.cells #[.int .i64 6, .int .i64 i, .int .i64 a, .int .i64 b, .int .i64 c] 65) _ hl1).trans hcell1
  have hbA := ((Below.refl w.heap.size w).alloc (Nat.le_refl _) (.cells #[.int .i64 6, .int .i64 i, .int .i64 a, .int .i64 b, .int .i64 c] 65))
  have ha0 := hbl.cell 0
  have ha1 := hbl.cell 1
  have ha2 := hbl.cell 2
  have ha3 := hbl.cell 3
  have ha4 := hbl.cell 4
  simp only [List.getElem?_cons_zero, List.getElem?_cons_succ] at ha0 ha1 ha2 ha3 ha4
  have HBl := Lib.hid hbl
  clear hm hcell1 hbl
  generalize w.alloc (.cells #[.int .i64 6, .int .i64 i, .int .i64 a, .int .i64 b, .int .i64 c] 65) = wA at *
  refine wp_region_still_tail 8 (by kernel_rfl) (by kernel_rfl) ?_
  simp only [List.take_succ_cons, List.take_zero, List.drop_succ_cons, List.drop_zero]
  iterate 8 still_step
  refine wpStill_nil ?_
  change wpList _ _ _ _ _ wA.drew
  have HBA := Lib.hid hbA.drew
  have HBl2 := Lib.hid (show Blk wA.drew w.heap.size 65 _ from HBl.out)
  clear hm2 hc2 HBl hbA ha0 ha1 ha2 ha3 ha4
  generalize wA.drew = wz at *
  have ha0 := HBl2.out.cell 0
  have ha1 := HBl2.out.cell 1
  have ha2 := HBl2.out.cell 2
  have ha3 := HBl2.out.cell 3
  have ha4 := HBl2.out.cell 4
  simp only [List.getElem?_cons_zero, List.getElem?_cons_succ] at ha0 ha1 ha2 ha3 ha4
  have HZ := Lib.hid (HH.out.below HBA.out)
  have HGZ := Lib.hid (gstep_below HG.out HBA.out).gate
  have hbBz : B ≤ wz.heap.size := Nat.le_trans hbB HBA.out.size
  have HV := Lib.hid hv
  clear hv
  have hO : ((d.fields.getD i []).map (rp rs)).length = (d.fields.getD i []).length := by simp
  have hm3 : wz.cell? ⟨m, 0, none⟩ = some (.slice (some ⟨b0, 0, none⟩) rs.length k0) := by rw [HZ.out.made.blk.cell, HV.out]; rfl
  go_wp2_with fail
  have HX := Lib.hid (mark_int B g ks R X wz HZ.out.stage.rep HGZ.out hbBz hl q _ HHR.out)
  clear ha0 ha1 ha2 ha3 ha4 hm3
  refine HX.out.mono ?_
  rintro e w1 ⟨rfl, H1, H2⟩
  have hfo := HF.out
  have HL := Lib.hid (HZ.out.setRec (d' := { d with marks := d.marks.set i true }) HGZ.out HHQ.out HHR.out (.inl rfl) H1 H2 rfl rfl rfl (fun k => by split <;> simp_all) (fun k => by split <;> simp_all) (fun k => getD_set _ _ _ _ _ (by rw [hfo.e2]; exact hi)))
  have H1' := Lib.hid H1
  clear H1 H2 HX
  go_wp2
  exact HQ'.out _ _ ⟨rfl, act_end HG.out HBA.out H1'.out (fun k h => h ▸ (HZ.out.thingR HHQ.out HHR.out).1), _, _, HL.out⟩

end Go.Proofs.Ytphhdmopfmelbaa

/- record: do, all kinds. -/
namespace Go.Proofs.Ytphhdmopfmelbaa
open Go.RowKit Go.Proofs.YtphhdmopfmelbaaW.PrintWords
set_option linter.unusedVariables false
set_option linter.unusedSimpArgs false

theorem live_do {d : WD} {B m : Nat} {w : World} {R : Nat → Option RecO} {X : Nat → Option ScxO} {rs fs xs : List Nat} {v1 v2 v3 : Value} {g : Option Nat} {ks : List Int} (h : LiveAt d B m w R X rs fs xs v1 v2 v3) (hfo : d.Form) (hg : GAtI w B g ks) (hbB : B ≤ w.heap.size) (hl : ks.length ≤ 1000000000)
    (k at_ a b c : Int) (f : d.Fit k at_ a b c) :
    Calls Try.prog 41 #[.pointer (some ⟨m, 0, none⟩), gvI g, .agg #[.int .i64 k, .int .i64 at_, .int .i64 a, .int .i64 b, .int .i64 c]] w fun e w' =>
      e = .returned (.int .i64 (doD d k at_ a b c).1) ∧ StepI B g w w' (ks ++ [kd k]) (Thing B w) ∧ ∃ R' X', LiveAt (doD d k at_ a b c).2 B m w' R' X' rs fs xs v1 v2 v3 := by
  obtain ⟨i, rfl⟩ : ∃ i : Nat, at_ = i := ⟨at_.toNat, by have := f.at0; omega⟩
  by_cases hk : k < 7
  · have h0 := f.k0
    have hc : k = 1 ∨ k = 2 ∨ k = 3 ∨ k = 4 ∨ k = 5 ∨ k = 6 := by omega
    rcases hc with rfl | rfl | rfl | rfl | rfl | rfl
    · exact do_1 h hfo hg hbB hl i a b c f
    · exact do_2 h hfo hg hbB hl i a b c f
    · exact do_3 h hfo hg hbB hl i a b c f
    · exact do_4 h hfo hg hbB hl i a b c f
    · exact do_5 h hfo hg hbB hl i a b c f
    · exact do_6 h hfo hg hbB hl i a b c f
  · have hi : i < d.states.length := by have := f.at2 (by omega); omega
    obtain ⟨q, s, hq, hX, hp⟩ := h.scx hi
    have hbA := ((Below.refl w.heap.size w).alloc (Nat.le_refl _) (.cells #[.int .i64 k, .int .i64 i, .int .i64 a, .int .i64 b, .int .i64 c] 65)).drew
    have HZ := h.below hbA
    have HG := (gstep_below hg hbA).gate
    have hbBz := Nat.le_trans hbB hbA.size
    have hS := hfo.hS _ (getD_mem hi 0)
    have key := do_via B g m rs fs xs v1 v2 v3 w h.made k a b c i (by have := h.hx; omega) q hq (by omega) (fun n w' => n = (doD d k i a b c).1 ∧ StepI B g w w' (ks ++ [kd k]) (Thing B w) ∧ ∃ R' X', LiveAt (doD d k i a b c).2 B m w' R' X' rs fs xs v1 v2 v3)
    have hk1 := f.k1
    refine (key ?_).mono (fun e w' h => by obtain ⟨n, rfl, rfl, h1, h2⟩ := h; exact ⟨rfl, h1, h2⟩)
    clear key
    have hc : k = 7 ∨ k = 8 ∨ k = 9 ∨ k = 10 ∨ k = 11 := by omega
    rcases hc with rfl | rfl | rfl | rfl | rfl
    · refine (doscx_7 B g ks R X _ HZ.stage.rep HG hbBz hl q s hX (by rw [hp.1]; exact hS.1) (by rw [hp.1]; omega)).mono ?_
      rintro e w1 ⟨rfl, H1, H2⟩
      exact ⟨_, rfl, hp.1, act_end hg hbA H1 (fun _ h => h.elim), _, _, HZ.same HG H1 H2⟩
    · refine (doscx_8 B g ks R X _ HZ.stage.rep HG hbBz hl q s hX).mono ?_
      rintro e w1 ⟨rfl, H1, H2⟩
      exact ⟨_, rfl, rfl, act_end hg hbA H1 (fun _ h => h ▸ HZ.thingX hq hX), _, _, HZ.setScx HG hq hX hp H1 H2 rfl rfl rfl (by simp [doD]) (fun k => getD_set _ _ _ _ _ hi) (fun k => by split <;> simp_all [doD, PP])⟩
    · refine (doscx_9 B g ks R X _ HZ.stage.rep HG hbBz hl q s hX).mono ?_
      rintro e w1 ⟨rfl, H1, H2⟩
      exact ⟨_, rfl, rfl, act_end hg hbA H1 (fun _ h => h ▸ HZ.thingX hq hX), _, _, HZ.setScx HG hq hX hp H1 H2 rfl rfl rfl (by simp [doD]) (fun k => getD_set _ _ _ _ _ hi) (fun k => by split <;> simp_all [doD, PP])⟩
    · refine (doscx_10 B g ks R X _ HZ.stage.rep HG hbBz hl q s hX).mono ?_
      rintro e w1 ⟨rfl, H1, H2⟩
      exact ⟨_, rfl, by rw [hp.2]; rfl, act_end hg hbA H1 (fun _ h => h.elim), _, _, HZ.same HG H1 H2⟩
    · refine (doscx_11 B g ks R X _ HZ.stage.rep HG hbBz hl q s hX).mono ?_
      rintro e w1 ⟨rfl, H1, H2⟩
      exact ⟨_, rfl, rfl, act_end hg hbA H1 (fun _ h => h ▸ HZ.thingX hq hX), _, _, HZ.setScx HG hq hX hp H1 H2 rfl rfl rfl rfl (fun k => by split <;> simp_all [doD, PP]) (fun k => getD_set _ _ _ _ _ (by rw [hfo.e4]; exact hi))⟩
end Go.Proofs.Ytphhdmopfmelbaa

/- record: a world on its way out: what world() has made. No walk. -/
namespace Go.Proofs.Ytphhdmopfmelbaa
open Go.RowKit Go.Proofs.YtphhdmopfmelbaaW.PrintWords
set_option linter.unusedVariables false
set_option linter.unusedSimpArgs false

abbrev TRI : Nat := 23
abbrev TII : Nat := 3
abbrev TBB : Nat := 4
/-- A row of numbers in a block of its own, no room to spare. -/
abbrev rowv (b : Nat) (r : List Int) : Value := .slice (some ⟨b, 0, none⟩) r.length r.length
/-- A world as memory of its own: its five slices; its rows of fields. -/
structure OutW (B : Nat) (d : WD) (fv iv mv sv zv : Value) (us : List Value) (w : World) : Prop where
  f : w.ownsRow B TRI 1 fv d.fields.length us
  inn : ∀ (i : Nat) (u : Value) (r : List Int), us[i]? = some u → d.fields[i]? = some r → w.ownsRow B TII 1 u r.length (r.map (Value.int .i64))
  dd : ∀ (i j : Nat) (u u' : Value), i ≠ j → us[i]? = some u → us[j]? = some u' → ∀ k, u.ownBlock = some k → u'.ownBlock ≠ some k
  i : w.ownsRow B TII 1 iv d.infos.length (d.infos.map (Value.int .i64))
  m : w.ownsRow B TBB 1 mv d.marks.length (d.marks.map Value.bool)
  s : w.ownsRow B TII 1 sv d.states.length (d.states.map (Value.int .i64))
  z : w.ownsRow B TBB 1 zv d.frozen.length (d.frozen.map Value.bool)
  dib : ∀ k, iv.ownBlock = some k → ∀ u ∈ us, u.ownBlock ≠ some k
  dsb : ∀ k, sv.ownBlock = some k → ∀ u ∈ us, u.ownBlock ≠ some k
  dis : ∀ k, iv.ownBlock = some k → sv.ownBlock ≠ some k
  dmz : ∀ k, mv.ownBlock = some k → zv.ownBlock ≠ some k
/-- The blocks of a world that goes out. -/
def OutFoot (fv iv mv sv zv : Value) (us : List Value) (k : Nat) : Prop := fv.ownBlock = some k ∨ iv.ownBlock = some k ∨ mv.ownBlock = some k ∨ sv.ownBlock = some k ∨ zv.ownBlock = some k ∨ ∃ u ∈ us, u.ownBlock = some k
section
variable {B : Nat} {d : WD} {fv iv mv sv zv v' : Value} {us : List Value} {w w1 w' : World}
theorem OutW.lb (h : OutW B d fv iv mv sv zv us w) : us.length = d.fields.length := by have := h.f.1; omega
theorem OutW.inn_own (h : OutW B d fv iv mv sv zv us w) {u : Value} (hu : u ∈ us) : ∃ r : List Int, w.ownsRow B TII 1 u r.length (r.map (Value.int .i64)) := by
  obtain ⟨i, hi⟩ := List.getElem?_of_mem hu
  have hl := (List.getElem?_eq_some_iff.1 hi).1
  exact ⟨_, h.inn i u _ hi (List.getElem?_eq_getElem (by rw [← h.lb]; exact hl))⟩
/-- What turns is none of its blocks. -/
theorem OutW.fr (h : OutW B d fv iv mv sv zv us w) {S : Nat → Prop} (hf : Fr w w' S) (hS : ∀ k, OutFoot fv iv mv sv zv us k → ¬ S k) : OutW B d fv iv mv sv zv us w' :=
  ⟨owns_fr h.f hf (fun k hk => hS k (.inl hk)), fun i u r h1 h2 => owns_fr (h.inn i u r h1 h2) hf (fun k hk => hS k (.inr (.inr (.inr (.inr (.inr ⟨u, List.mem_of_getElem? h1, hk⟩)))))), h.dd,
    owns_fr h.i hf (fun k hk => hS k (.inr (.inl hk))), owns_fr h.m hf (fun k hk => hS k (.inr (.inr (.inl hk)))), owns_fr h.s hf (fun k hk => hS k (.inr (.inr (.inr (.inl hk))))), owns_fr h.z hf (fun k hk => hS k (.inr (.inr (.inr (.inr (.inl hk)))))), h.dib, h.dsb, h.dis, h.dmz⟩
theorem OutW.foot (h : OutW B d fv iv mv sv zv us w) {k : Nat} (hk : OutFoot fv iv mv sv zv us k) : B ≤ k ∧ k < w.heap.size ∧ ∃ T ys, Blk w k T ys ∧ (T = TRI ∨ T = TII ∨ T = TBB) := by
  have key : ∀ {v e n us}, w.ownsRow B e 1 v n us → v.ownBlock = some k → B ≤ k ∧ k < w.heap.size ∧ ∃ ys, Blk w k e ys := fun ho hk => by
    obtain ⟨c, hc⟩ := owns_typed ho k hk
    exact ⟨(World.ownsRow.lt ho k hk).1, (World.ownsRow.lt ho k hk).2, c, hc⟩
  rcases hk with hk | hk | hk | hk | hk | ⟨u, hu, hk⟩
  · obtain ⟨a, b, c, e⟩ := key h.f hk; exact ⟨a, b, _, c, e, .inl rfl⟩
  · obtain ⟨a, b, c, e⟩ := key h.i hk; exact ⟨a, b, _, c, e, .inr (.inl rfl)⟩
  · obtain ⟨a, b, c, e⟩ := key h.m hk; exact ⟨a, b, _, c, e, .inr (.inr rfl)⟩
  · obtain ⟨a, b, c, e⟩ := key h.s hk; exact ⟨a, b, _, c, e, .inr (.inl rfl)⟩
  · obtain ⟨a, b, c, e⟩ := key h.z hk; exact ⟨a, b, _, c, e, .inr (.inr rfl)⟩
  · obtain ⟨r, hr⟩ := h.inn_own hu
    obtain ⟨a, b, c, e⟩ := key hr hk; exact ⟨a, b, _, c, e, .inr (.inl rfl)⟩
theorem OutW.below (h : OutW B d fv iv mv sv zv us w) (hb : Below w.heap.size w w') : OutW B d fv iv mv sv zv us w' := h.fr (S := fun _ => False) (Fr.of_below0 hb) (fun _ _ => id)
/-- A block of another type has turned. -/
theorem OutW.other (h : OutW B d fv iv mv sv zv us w) {S : Nat → Prop} (hf : Fr w w' S) (hS : ∀ k, S k → ∃ T ys, Blk w k T ys ∧ T ≠ TRI ∧ T ≠ TII ∧ T ≠ TBB) : OutW B d fv iv mv sv zv us w' :=
  h.fr hf (fun k hk hs => by
    obtain ⟨_, _, T, ys, hb, hT⟩ := h.foot hk
    obtain ⟨T', ys', hb', h1, h2, h3⟩ := hS k hs
    have := (hb.inj hb').1
    rcases hT with rfl | rfl | rfl <;> simp_all)
theorem OutW.empty (B : Nat) (w : World) : OutW B ⟨[], [], [], [], []⟩ (.slice none 0 0) (.slice none 0 0) (.slice none 0 0) (.slice none 0 0) (.slice none 0 0) [] w :=
  ⟨World.ownsRow_nil _ _ _ _, fun i u r h => by simp at h, fun i j u u' _ h => by simp at h, World.ownsRow_nil _ _ _ _, World.ownsRow_nil _ _ _ _, World.ownsRow_nil _ _ _ _, World.ownsRow_nil _ _ _ _,
    fun k h => by simp [Value.ownBlock] at h, fun k h => by simp [Value.ownBlock] at h, fun k h => by simp [Value.ownBlock] at h, fun k h => by simp [Value.ownBlock] at h⟩
theorem ne_typed {w : World} {B B' e e' n n' : Nat} {v u : Value} {us ys : List Value} (h : w.ownsRow B e 1 v n us) (h' : w.ownsRow B' e' 1 u n' ys) (hne : e ≠ e') (k : Nat) (hk : v.ownBlock = some k) : ¬ some k = u.ownBlock := fun e2 => by
  obtain ⟨c, hc⟩ := owns_typed h k hk
  obtain ⟨c', hc'⟩ := owns_typed h' k e2.symm
  exact hne ((show Blk w k e c from hc).inj hc').1
/-- A row of fields more. -/
theorem OutW.pushF (h : OutW B d fv iv mv sv zv us w) (hg : w.grownBy w1 fv.ownBlock) {u : Value} {r : List Int} (hu : w.ownsRow B TII 1 u r.length (r.map (Value.int .i64))) (hn : ∀ k, u.ownBlock = some k → ¬ OutFoot fv iv mv sv zv us k)
    (ho : w1.ownsRow B TRI 1 v' (d.fields.length + 1) (us ++ [u])) : OutW B { d with fields := d.fields ++ [r] } v' iv mv sv zv (us ++ [u]) w1 := by
  have hf := Fr.of_grown hg
  refine ⟨by simpa using ho, fun i c q h1 h2 => ?_, fun i j c c' hij h1 h2 k hk hk' => ?_, owns_fr h.i hf (fun k hk => ne_typed h.i h.f (by decide) k hk), owns_fr h.m hf (fun k hk => ne_typed h.m h.f (by decide) k hk),
    owns_fr h.s hf (fun k hk => ne_typed h.s h.f (by decide) k hk), owns_fr h.z hf (fun k hk => ne_typed h.z h.f (by decide) k hk), fun k hk x hx hx' => ?_, fun k hk x hx hx' => ?_, h.dis, h.dmz⟩
  · rcases get_append_one h1 with h1 | ⟨rfl, rfl⟩
    · have hl := (List.getElem?_eq_some_iff.1 h1).1
      rw [List.getElem?_append_left (by rw [← h.lb]; exact hl)] at h2
      have hc := h.inn i c q h1 h2
      exact owns_fr hc hf (fun k hk => ne_typed hc h.f (by decide) k hk)
    · rw [List.getElem?_append_right (by rw [h.lb]; exact Nat.le_refl _), h.lb, Nat.sub_self] at h2
      simp at h2
      subst h2
      exact owns_fr hu hf (fun k hk => ne_typed hu h.f (by decide) k hk)
  · rcases get_append_one h1 with h1 | ⟨rfl, rfl⟩
    · rcases get_append_one h2 with h2 | ⟨rfl, rfl⟩
      · exact h.dd i j c c' hij h1 h2 k hk hk'
      · exact hn k hk' (.inr (.inr (.inr (.inr (.inr ⟨c, List.mem_of_getElem? h1, hk⟩)))))
    · rcases get_append_one h2 with h2 | ⟨rfl, rfl⟩
      · exact hn k hk (.inr (.inr (.inr (.inr (.inr ⟨c', List.mem_of_getElem? h2, hk'⟩)))))
      · exact hij rfl
  · rcases List.mem_append.1 hx with hx | hx
    · exact h.dib k hk x hx hx'
    · simp at hx; subst hx; exact hn k hx' (.inr (.inl hk))
  · rcases List.mem_append.1 hx with hx | hx
    · exact h.dsb k hk x hx hx'
    · simp at hx; subst hx; exact hn k hx' (.inr (.inr (.inr (.inl hk))))
theorem own_new {v v' : Value} {w : World} (hat : v'.ownBlock = v.ownBlock ∨ ∃ b, v'.ownBlock = some b ∧ w.heap.size ≤ b) {k : Nat} (hk : v'.ownBlock = some k) : v.ownBlock = some k ∨ w.heap.size ≤ k := by
  rcases hat with h | ⟨b, h, hb⟩
  · exact .inl (h ▸ hk)
  · rw [h] at hk; cases hk; exact .inr hb
theorem OutW.pushI (h : OutW B d fv iv mv sv zv us w) (hg : w.grownBy w1 iv.ownBlock) {n : Int} (ho : w1.ownsRow B TII 1 v' (d.infos.length + 1) (d.infos.map (Value.int .i64) ++ [.int .i64 n]))
    (hat : v'.ownBlock = iv.ownBlock ∨ ∃ b, v'.ownBlock = some b ∧ w.heap.size ≤ b) : OutW B { d with infos := d.infos ++ [n] } fv v' mv sv zv us w1 := by
  have hf := Fr.of_grown hg
  refine ⟨owns_fr h.f hf (fun k hk => ne_typed h.f h.i (by decide) k hk), fun i c q h1 h2 => owns_fr (h.inn i c q h1 h2) hf (fun k hk e => h.dib k e.symm c (List.mem_of_getElem? h1) hk), h.dd, by simpa using ho, owns_fr h.m hf (fun k hk => ne_typed h.m h.i (by decide) k hk),
    owns_fr h.s hf (fun k hk e => h.dis k e.symm hk), owns_fr h.z hf (fun k hk => ne_typed h.z h.i (by decide) k hk), fun k hk x hx hm => ?_, h.dsb, fun k hk hs => ?_, h.dmz⟩
  · rcases own_new hat hk with hk | hk
    · exact h.dib k hk x hx hm
    · obtain ⟨r, hr⟩ := h.inn_own hx
      have := (World.ownsRow.lt hr k hm).2; omega
  · rcases own_new hat hk with hk | hk
    · exact h.dis k hk hs
    · have := (World.ownsRow.lt h.s k hs).2; omega
theorem OutW.pushS (h : OutW B d fv iv mv sv zv us w) (hg : w.grownBy w1 sv.ownBlock) {n : Int} (ho : w1.ownsRow B TII 1 v' (d.states.length + 1) (d.states.map (Value.int .i64) ++ [.int .i64 n]))
    (hat : v'.ownBlock = sv.ownBlock ∨ ∃ b, v'.ownBlock = some b ∧ w.heap.size ≤ b) : OutW B { d with states := d.states ++ [n] } fv iv mv v' zv us w1 := by
  have hf := Fr.of_grown hg
  refine ⟨owns_fr h.f hf (fun k hk => ne_typed h.f h.s (by decide) k hk), fun i c q h1 h2 => owns_fr (h.inn i c q h1 h2) hf (fun k hk e => h.dsb k e.symm c (List.mem_of_getElem? h1) hk), h.dd, owns_fr h.i hf (fun k hk e => h.dis k hk e.symm), owns_fr h.m hf (fun k hk => ne_typed h.m h.s (by decide) k hk),
    by simpa using ho, owns_fr h.z hf (fun k hk => ne_typed h.z h.s (by decide) k hk), h.dib, fun k hk x hx hm => ?_, fun k hk hs => ?_, h.dmz⟩
  · rcases own_new hat hk with hk | hk
    · exact h.dsb k hk x hx hm
    · obtain ⟨r, hr⟩ := h.inn_own hx
      have := (World.ownsRow.lt hr k hm).2; omega
  · rcases own_new hat hs with hs | hs
    · exact h.dis k hk hs
    · have := (World.ownsRow.lt h.i k hk).2; omega
theorem OutW.pushM (h : OutW B d fv iv mv sv zv us w) (hg : w.grownBy w1 mv.ownBlock) {n : Bool} (ho : w1.ownsRow B TBB 1 v' (d.marks.length + 1) (d.marks.map Value.bool ++ [.bool n]))
    (hat : v'.ownBlock = mv.ownBlock ∨ ∃ b, v'.ownBlock = some b ∧ w.heap.size ≤ b) : OutW B { d with marks := d.marks ++ [n] } fv iv v' sv zv us w1 := by
  have hf := Fr.of_grown hg
  refine ⟨owns_fr h.f hf (fun k hk => ne_typed h.f h.m (by decide) k hk), fun i c q h1 h2 => owns_fr (h.inn i c q h1 h2) hf (fun k hk => ne_typed (h.inn i c q h1 h2) h.m (by decide) k hk), h.dd, owns_fr h.i hf (fun k hk => ne_typed h.i h.m (by decide) k hk), by simpa using ho,
    owns_fr h.s hf (fun k hk => ne_typed h.s h.m (by decide) k hk), owns_fr h.z hf (fun k hk e => h.dmz k e.symm hk), h.dib, h.dsb, h.dis, fun k hk hs => ?_⟩
  · rcases own_new hat hk with hk | hk
    · exact h.dmz k hk hs
    · have := (World.ownsRow.lt h.z k hs).2; omega
theorem OutW.pushZ (h : OutW B d fv iv mv sv zv us w) (hg : w.grownBy w1 zv.ownBlock) {n : Bool} (ho : w1.ownsRow B TBB 1 v' (d.frozen.length + 1) (d.frozen.map Value.bool ++ [.bool n]))
    (hat : v'.ownBlock = zv.ownBlock ∨ ∃ b, v'.ownBlock = some b ∧ w.heap.size ≤ b) : OutW B { d with frozen := d.frozen ++ [n] } fv iv mv sv v' us w1 := by
  have hf := Fr.of_grown hg
  refine ⟨owns_fr h.f hf (fun k hk => ne_typed h.f h.z (by decide) k hk), fun i c q h1 h2 => owns_fr (h.inn i c q h1 h2) hf (fun k hk => ne_typed (h.inn i c q h1 h2) h.z (by decide) k hk), h.dd, owns_fr h.i hf (fun k hk => ne_typed h.i h.z (by decide) k hk), owns_fr h.m hf (fun k hk e => h.dmz k hk e.symm),
    owns_fr h.s hf (fun k hk => ne_typed h.s h.z (by decide) k hk), by simpa using ho, h.dib, h.dsb, h.dis, fun k hk hs => ?_⟩
  · rcases own_new hat hs with hs | hs
    · exact h.dmz k hk hs
    · have := (World.ownsRow.lt h.m k hk).2; omega
end
end Go.Proofs.Ytphhdmopfmelbaa

/- record: world(): what holds while it goes; the cut. -/
namespace Go.Proofs.Ytphhdmopfmelbaa
open Go.RowKit Go.Proofs.YtphhdmopfmelbaaW.PrintWords
set_option linter.unusedVariables false
set_option linter.unusedSimpArgs false

theorem pinfo_int : (Try.prog.info? 3).map (fun i => (i.zero, i.size, i.bytes)) = some (some (.int .i64 0), 1, 8) := by kernel_rfl
theorem pinfo_bool : (Try.prog.info? 4).map (fun i => (i.zero, i.size, i.bytes)) = some (some (.bool false), 1, 1) := by kernel_rfl
theorem pinfo_row : (Try.prog.info? 23).map (fun i => (i.zero, i.size, i.bytes)) = some (some (.slice none 0 0), 1, 24) := by kernel_rfl

/-- A region's ways are brought together: behind each the frame is F of an append's slice, the world as N has it. -/
def CutQ (F : Option Addr → Nat → Act) (N : Option Addr → Nat → World → Prop) : Exit → Act → World → Prop
  | .normal, a', w' => ∃ A k, a' = F A k ∧ N A k w'
  | _, _, _ => False
theorem cut_post {P : Program} {c : Code} {Q : Exit → Act → World → Prop} {a : Act} {w : World} {F : Option Addr → Nat → Act} (N : Option Addr → Nat → World → Prop) (h1 : c.wp P (CutQ F N) a w)
    (h2 : ∀ A k w', N A k w' → Q .normal (F A k) w') : c.wp P Q a w :=
  Code.wp_mono (fun e a' w' h => by
    cases e <;> first | exact (h : False).elim | skip
    obtain ⟨A, k, rfl, hn⟩ := h
    exact h2 A k w' hn) h1

/-- What world() holds between two statements: its result's cells, its variable's cells, the world so far. -/
structure WAt (w0 : World) (d : WD) (fv iv mv sv zv : Value) (us : List Value) (w : World) : Prop where
  below : Below w0.heap.size w0 w
  res : Blk w w0.heap.size TWD [.slice none 0 0, .slice none 0 0, .slice none 0 0, .slice none 0 0, .slice none 0 0]
  box : Blk w (w0.heap.size + 1) TWD [fv, iv, mv, sv, zv]
  out : OutW w0.heap.size d fv iv mv sv zv us w
section
variable {w0 w w1 w' : World} {d : WD} {fv iv mv sv zv v' : Value} {us : List Value}
theorem WAt.fr (h : WAt w0 d fv iv mv sv zv us w) {nb : Nat} (hf : Fr w w' (fun k => k = nb)) {T : Nat} {ys : List Value} (hb : Blk w nb T ys) (hT : T ≠ TWD) (hn : ¬ OutFoot fv iv mv sv zv us nb) (hlo : w0.heap.size ≤ nb) : WAt w0 d fv iv mv sv zv us w' :=
  ⟨h.below.trans (hf.below h.below.size (fun k hk => hk ▸ hlo)), hf.blk h.res (fun e => by subst e; exact hT (hb.inj h.res).1), hf.blk h.box (fun e => by subst e; exact hT (hb.inj h.box).1), h.out.fr hf (fun k hk e => by subst e; exact hn hk)⟩
theorem WAt.more (h : WAt w0 d fv iv mv sv zv us w) (hb : Below w.heap.size w w') : WAt w0 d fv iv mv sv zv us w' :=
  ⟨h.below.trans (hb.mono h.below.size), (Fr.of_below0 (S := fun _ => False) hb).blk h.res id, (Fr.of_below0 (S := fun _ => False) hb).blk h.box id, h.out.below hb⟩
theorem WAt.drew (h : WAt w0 d fv iv mv sv zv us w) : WAt w0 d fv iv mv sv zv us w.drew := h.more (Below.refl _ _).drew
/-- An append, and the store of what it gave. -/
theorem WAt.pushed (h : WAt w0 d fv iv mv sv zv us w) {u : Value} {e n : Nat} {ys : List Value} (ho : w.ownsRow w0.heap.size e 1 u n ys) (he : e ≠ TWD) (hg : w.grownBy w1 u.ownBlock) (j : Nat) :
    Below w0.heap.size w0 (w1.setCell ⟨w0.heap.size + 1, j, none⟩ v') ∧ Blk (w1.setCell ⟨w0.heap.size + 1, j, none⟩ v') w0.heap.size TWD [.slice none 0 0, .slice none 0 0, .slice none 0 0, .slice none 0 0, .slice none 0 0] ∧
    Blk (w1.setCell ⟨w0.heap.size + 1, j, none⟩ v') (w0.heap.size + 1) TWD ([fv, iv, mv, sv, zv].set j v') ∧ ∀ {fv iv mv sv zv us d}, OutW w0.heap.size d fv iv mv sv zv us w1 → OutW w0.heap.size d fv iv mv sv zv us (w1.setCell ⟨w0.heap.size + 1, j, none⟩ v') := by
  have hf := Fr.of_grown hg
  have hne : ∀ {k ys}, Blk w k TWD ys → ¬ some k = u.ownBlock := fun hb e2 => by
    obtain ⟨c, hc⟩ := owns_typed ho _ e2.symm
    exact he ((show Blk w _ e c from hc).inj hb).1
  have hb1 := hf.blk h.box (hne h.box)
  have hs : Fr w1 (w1.setCell ⟨w0.heap.size + 1, j, none⟩ v') (fun k => k = w0.heap.size + 1) := (Fr.refl w1 _).setCell _ _ (fun _ => rfl)
  refine ⟨(h.below.trans (hf.below h.below.size (fun k hk => (World.ownsRow.lt ho k hk.symm).1))).trans (hs.below ?_ (fun k hk => by omega)), hs.blk (hf.blk h.res (hne h.res)) (by omega), hb1.set j v', fun ho2 => ho2.other hs (fun k hk => ⟨TWD, _, hk ▸ hb1, by decide, by decide, by decide⟩)⟩
  have := h.below.size; have := hf.size; omega
theorem WAt.pushI (h : WAt w0 d fv iv mv sv zv us w) (hg : w.grownBy w1 iv.ownBlock) {n : Int} (ho : w1.ownsRow w0.heap.size TII 1 v' (d.infos.length + 1) (d.infos.map (Value.int .i64) ++ [.int .i64 n]))
    (hat : v'.ownBlock = iv.ownBlock ∨ ∃ b, v'.ownBlock = some b ∧ w.heap.size ≤ b) : WAt w0 { d with infos := d.infos ++ [n] } fv v' mv sv zv us (w1.setCell ⟨w0.heap.size + 1, 1, none⟩ v') :=
  let ⟨a, b, c, e⟩ := h.pushed h.out.i (by decide) hg 1
  ⟨a, b, c, e (h.out.pushI hg ho hat)⟩
theorem WAt.pushM (h : WAt w0 d fv iv mv sv zv us w) (hg : w.grownBy w1 mv.ownBlock) {n : Bool} (ho : w1.ownsRow w0.heap.size TBB 1 v' (d.marks.length + 1) (d.marks.map Value.bool ++ [.bool n]))
    (hat : v'.ownBlock = mv.ownBlock ∨ ∃ b, v'.ownBlock = some b ∧ w.heap.size ≤ b) : WAt w0 { d with marks := d.marks ++ [n] } fv iv v' sv zv us (w1.setCell ⟨w0.heap.size + 1, 2, none⟩ v') :=
  let ⟨a, b, c, e⟩ := h.pushed h.out.m (by decide) hg 2
  ⟨a, b, c, e (h.out.pushM hg ho hat)⟩
theorem WAt.pushS (h : WAt w0 d fv iv mv sv zv us w) (hg : w.grownBy w1 sv.ownBlock) {n : Int} (ho : w1.ownsRow w0.heap.size TII 1 v' (d.states.length + 1) (d.states.map (Value.int .i64) ++ [.int .i64 n]))
    (hat : v'.ownBlock = sv.ownBlock ∨ ∃ b, v'.ownBlock = some b ∧ w.heap.size ≤ b) : WAt w0 { d with states := d.states ++ [n] } fv iv mv v' zv us (w1.setCell ⟨w0.heap.size + 1, 3, none⟩ v') :=
  let ⟨a, b, c, e⟩ := h.pushed h.out.s (by decide) hg 3
  ⟨a, b, c, e (h.out.pushS hg ho hat)⟩
theorem WAt.pushZ (h : WAt w0 d fv iv mv sv zv us w) (hg : w.grownBy w1 zv.ownBlock) {n : Bool} (ho : w1.ownsRow w0.heap.size TBB 1 v' (d.frozen.length + 1) (d.frozen.map Value.bool ++ [.bool n]))
    (hat : v'.ownBlock = zv.ownBlock ∨ ∃ b, v'.ownBlock = some b ∧ w.heap.size ≤ b) : WAt w0 { d with frozen := d.frozen ++ [n] } fv iv mv sv v' us (w1.setCell ⟨w0.heap.size + 1, 4, none⟩ v') :=
  let ⟨a, b, c, e⟩ := h.pushed h.out.z (by decide) hg 4
  ⟨a, b, c, e (h.out.pushZ hg ho hat)⟩
theorem WAt.pushF (h : WAt w0 d fv iv mv sv zv us w) (hg : w.grownBy w1 fv.ownBlock) {u : Value} {r : List Int} (hu : w.ownsRow w0.heap.size TII 1 u r.length (r.map (Value.int .i64))) (hn : ∀ k, u.ownBlock = some k → ¬ OutFoot fv iv mv sv zv us k)
    (ho : w1.ownsRow w0.heap.size TRI 1 v' (d.fields.length + 1) (us ++ [u])) : WAt w0 { d with fields := d.fields ++ [r] } v' iv mv sv zv (us ++ [u]) (w1.setCell ⟨w0.heap.size + 1, 0, none⟩ v') :=
  let ⟨a, b', c, e⟩ := h.pushed h.out.f (by decide) hg 0
  ⟨a, b', c, e (h.out.pushF hg hu hn ho)⟩
end
/-- Behind the append the variable's cells are as they were. -/
theorem WAt.after {w0 w w1 : World} {d : WD} {fv iv mv sv zv v' x : Value} {us : List Value} (h : WAt w0 d fv iv mv sv zv us w) {u : Value} {e n n' : Nat} {ys ys' : List Value} (ho : w.ownsRow w0.heap.size e 1 u n ys) (he : TWD ≠ e) (hg : w.grownBy w1 u.ownBlock) {j : Nat} (hx : [fv, iv, mv, sv, zv][j]? = some x)
    (ho' : w1.ownsRow w0.heap.size e 1 v' n' ys') : w1.cell? ⟨w0.heap.size + 1, j, none⟩ = some x ∧ w1.frozen? ⟨w0.heap.size + 1, j, none⟩ = false ∧ ∃ A c, v' = .slice A n' c := after_append h.box ho he hg hx n' ho'
theorem WAt.start (w : World) : WAt w ⟨[], [], [], [], []⟩ (.slice none 0 0) (.slice none 0 0) (.slice none 0 0) (.slice none 0 0) (.slice none 0 0) []
    ((w.alloc (.cells #[.slice none 0 0, .slice none 0 0, .slice none 0 0, .slice none 0 0, .slice none 0 0] TWD)).alloc (.cells #[.slice none 0 0, .slice none 0 0, .slice none 0 0, .slice none 0 0, .slice none 0 0] TWD)) := by
  refine ⟨((Below.refl w.heap.size w).alloc (Nat.le_refl _) _).alloc (by simp) _, (Blk.new w TWD [.slice none 0 0, .slice none 0 0, .slice none 0 0, .slice none 0 0, .slice none 0 0]).alloc _, ?_, OutW.empty _ _⟩
  have := Blk.new (w.alloc (.cells #[.slice none 0 0, .slice none 0 0, .slice none 0 0, .slice none 0 0, .slice none 0 0] TWD)) TWD [.slice none 0 0, .slice none 0 0, .slice none 0 0, .slice none 0 0, .slice none 0 0]
  simpa using this
end Go.Proofs.Ytphhdmopfmelbaa

/- record: world(): the walk. -/
namespace Go.Proofs.Ytphhdmopfmelbaa
open Go.RowKit Go.Proofs.YtphhdmopfmelbaaW.PrintWords
set_option linter.unusedVariables false
set_option linter.unusedSimpArgs false

theorem markedn {R : Nat → Option RecO} {X : Nat → Option ScxO} {w : World} (h : Repint w R X)  (b : Nat) (o : RecO) (ho : R b = some o) :
    Calls Try.prog 97 #[pv (some b), .nilIface] w fun e w' => e = .returned (.bool o.mark) ∧ w = w' := by
  cases hm : o.mark
  · exact markedn_false_int R X w h b o ho hm
  · exact markedn_true_int R X w h b o ho hm
theorem allfrozenn {R : Nat → Option RecO} {X : Nat → Option ScxO} {w : World} (h : Repint w R X)  (b : Nat) (o : ScxO) (ho : X b = some o) :
    Calls Try.prog 72 #[pv (some b), .nilIface] w fun e w' => e = .returned (.bool o.frozen) ∧ w = w' := by
  cases hm : o.frozen
  · exact allfrozenn_false_int R X w h b o ho hm
  · exact allfrozenn_true_int R X w h b o ho hm
def zeros (n : Nat) : Array Value := (List.replicate n (.int .i64 0)).toArray
theorem zeros_blk (w : World) (E n : Nat) : Blk (w.alloc (.cells (zeros n) E)) w.heap.size E (List.replicate n (.int .i64 0)) := Blk.new w E _
theorem run_make_zeros {P : Program} {t e : TypeId} {z : Value} {by_ : Nat} (ht : P.underlying t = some (.slice e)) (hinfo : (P.info? e).map (fun i => (i.zero, i.size, i.bytes)) = some (some z, 1, by_)) (hz : z.cells = #[.int .i64 0])
    (n : Nat) (hb : by_ * n ≤ 281474976710656) (h63 : n ≤ 9223372036854775807) (w : World) :
    (Instr.makeSlice t (.int .i64 (n : Int)) (.int .i64 (n : Int))).run P w = .ok (.slice (some ⟨w.heap.size, 0, none⟩) n n) (w.alloc (.cells (zeros n) e)) := by
  obtain ⟨i, hi, hzz⟩ := Option.map_eq_some_iff.1 hinfo
  simp only [Prod.mk.injEq] at hzz
  obtain ⟨hz0, hs, hbb⟩ := hzz
  have hb' : (i.bytes : Int) * (n : Int) ≤ 281474976710656 := by
    rw [hbb]
    have h : ((by_ * n : Nat) : Int) ≤ 281474976710656 := by omega
    rwa [Int.natCast_mul] at h
  have hr := run_make (P := P) w t e i z ht hi hz0 .i64 .i64 n n (by omega) (Int.le_refl _) hb' (by omega)
  rw [hr]
  simp only [Int.toNat_natCast, hs, Nat.mul_one, hz]
  congr 2
  have : madeCells #[.int .i64 0] n = zeros n := by
    apply Array.toList_inj.1
    rw [toList_madeCells_one]
    simp [zeros]
  rw [this]
/-- The row while it is filled: q numbers stand, noughts behind. -/
def part (row : List Int) (q : Nat) : List Value := (row.take q).map (Value.int .i64) ++ List.replicate (row.length - q) (.int .i64 0)
theorem part_zero (row : List Int) : part row 0 = List.replicate row.length (.int .i64 0) := by simp [part]
theorem part_all (row : List Int) : part row row.length = row.map (Value.int .i64) := by simp [part]
theorem part_set (row : List Int) (q : Nat) (hq : q < row.length) : (part row q).set q (.int .i64 row[q]) = part row (q + 1) := by
  unfold part
  rw [List.set_append_right _ _ (by simp; omega)]
  simp only [List.length_map, List.length_take, Nat.min_eq_left (Nat.le_of_lt hq), Nat.sub_self]
  rw [show row.length - q = (row.length - (q + 1)) + 1 by omega, List.replicate_succ, List.set_cons_zero, List.take_add_one, List.getElem?_eq_getElem hq, List.map_append, List.append_assoc]
  rfl
theorem part_len (row : List Int) (q : Nat) (hq : q ≤ row.length) : (part row q).length = row.length := by simp [part]; omega

theorem own_of_blk {w : World} {b B : Nat} {r : List Int} (h : Blk w b TII (r.map (Value.int .i64))) (hB : B ≤ b) (hl : r.length ≤ 1000) : w.ownsRow B TII 1 (rowv b r) r.length (r.map (Value.int .i64)) :=
  ⟨by simp, .inr ⟨b, r.length, _, rfl, hB, h, Nat.le_refl _, by simp only [maxLen]; omega, by simp, by rw [Nat.mul_one]; exact List.take_of_length_le (by simp)⟩⟩
/-- After j records. -/
def WI1 (w : World) (d : WD) (j : Nat) (wr : World) : Prop :=
  ∃ fv iv mv bs, WAt w ⟨d.fields.take j, d.infos.take j, d.marks.take j, [], []⟩ fv iv mv (.slice none 0 0) (.slice none 0 0) bs wr
/-- In record j, after q fields. -/
def WI2 (w : World) (d : WD) (j nb : Nat) (row : List Int) (fv iv mv : Value) (bs : List Value) (q : Nat) (wr : World) : Prop :=
  WAt w ⟨d.fields.take j, d.infos.take j, d.marks.take j, [], []⟩ fv iv mv (.slice none 0 0) (.slice none 0 0) bs wr ∧ Blk wr nb TII (part row q)
/-- After j SCX-records. -/
def WI3 (w : World) (d : WD) (j : Nat) (wr : World) : Prop :=
  ∃ fv iv mv sv zv bs, WAt w ⟨d.fields, d.infos, d.marks, d.states.take j, d.frozen.take j⟩ fv iv mv sv zv bs wr
theorem take_one {α : Type} (l : List α) (j : Nat) (h : j < l.length) : l.take j ++ [l[j]] = l.take (j + 1) := (List.take_succ_eq_append_getElem h).symm

theorem wsize : (Try.prog.info? 36).map (·.size) = some 5 := by kernel_rfl
set_option maxHeartbeats 4000000 in
set_option maxRecDepth 100000 in
theorem rec_world {d : WD} {B m : Nat} {w : World} {R : Nat → Option RecO} {X : Nat → Option ScxO} {rs fs xs : List Nat} {v1 v2 v3 : Value} (h : LiveAt d B m w R X rs fs xs v1 v2 v3) (hfo : d.Form) :
    Calls Try.prog 42 #[.pointer (some ⟨m, 0, none⟩)] w fun e w' => ∃ fv iv mv sv zv bs, e = .returned (.agg #[fv, iv, mv, sv, zv]) ∧ Below w.heap.size w w' ∧ OutW w.heap.size d fv iv mv sv zv bs w' := by
  refine calls_hide fun Q HQ => ?_
  have HQ' := Lib.hid HQ
  have HH := Lib.hid h
  have HF := Lib.hid hfo
  have HST := Lib.hid (WAt.start w)
  have HRL := Lib.hid h.hr
  have hr64 : rs.length ≤ 64 := by rw [h.hr]; exact hfo.l0
  have hx64 : xs.length ≤ 64 := by rw [h.hx]; exact hfo.l3
  obtain ⟨A1, k1, hv1, _, _⟩ := owns_slice h.made.o1
  obtain ⟨A3, k3, hv3, _, _⟩ := owns_slice h.made.o3
  have HV1 := Lib.hid hv1
  have HV3 := Lib.hid hv3
  have hmk := fun n (hn : n ≤ 64) w => run_make_zeros (P := Try.prog) (t := 23) Try.underlying23 pinfo_int rfl n (by omega) (by omega) w
  have HMK := Lib.hid hmk
  have hm0 : w.cell? ⟨m, 0, none⟩ = some (.slice A1 rs.length k1) := by rw [h.made.blk.cell, hv1]; rfl
  have hm2 : w.cell? ⟨m, 2, none⟩ = some (.slice A3 xs.length k3) := by rw [h.made.blk.cell, hv3]; rfl
  have HM0 := Lib.hid hm0
  have HM2 := Lib.hid hm2
  have hm0a := pw_cell_below HST.out.below hm0
  clear HQ h hfo hv1 hv3 hmk hm0 hm2
  go_enter Try.func42, Try.ntmps42
  go_wp2
  go_loopw [15] (fun k wr => ∃ j : Nat, j ≤ rs.length ∧ k = .int .i64 j ∧ WI1 w d j wr) (fun k _ => rs.length - (intOf k).toNat)
  case atStart => exact ⟨0, Nat.zero_le _, rfl, _, _, _, _, HST.out⟩
  case round =>
    clear HST hm0a
    obtain ⟨j, hj, rfl, fv, iv, mv, bs, hW⟩ := hrel
    have HW := Lib.hid hW
    clear hW
    by_cases hlt : j < rs.length
    · have hjd : j < d.fields.length := by rw [← HRL.out]; exact hlt
      obtain ⟨b0, k0, hv, hcell⟩ := owns_at HH.out.made.o1 hlt
      rw [HV1.out] at hv
      have hA1 := (Value.slice.inj hv).1
      subst hA1
      obtain ⟨q, fb, hq, hR, hfb⟩ := HH.out.row hjd
      rw [hq] at hcell
      have hcell1 : _ = some (Value.pointer (some ⟨q, 0, none⟩)) := pw_cell_below HW.out.below hcell
      have HD := Lib.hid (show d.fields.getD j [] = d.fields[j] by simp [List.getD_eq_getElem?_getD, List.getElem?_eq_getElem hjd])
      have HR := Lib.hid hR
      have hl64 := HF.out.l1 d.fields[j] (List.getElem_mem hjd)
      have hLEN := len_int R X wr (HH.out.below HW.out.below).stage.rep q _ hR
      simp only [List.length_map, HD.out] at hLEN
      have HLEN := Lib.hid hLEN
      have hmk := HMK.out d.fields[j].length hl64 wr
      have hn64 : d.fields[j].length ≤ 64 := hl64
      have HFO := Lib.hid (HF.out.hF d.fields[j] (List.getElem_mem hjd))
      have HFI := Lib.hid (HF.out.hI _ (getD_mem (show j < d.infos.length by rw [HF.out.e1]; exact hjd) 0))
      have HTK := Lib.hid (take_one d.fields j hjd)
      generalize d.fields[j] = row at *
      have HNB := Lib.hid (show ¬ OutFoot fv iv mv (.slice none 0 0) (.slice none 0 0) bs wr.heap.size from fun e => by have := (HW.out.out.foot e).2.1; omega)
      have hba : Below wr.heap.size wr (wr.alloc (.cells (zeros row.length) 3)) := (Below.refl wr.heap.size wr).alloc (Nat.le_refl _) _
      have HS2 := Lib.hid (show WI2 w d j wr.heap.size row fv iv mv bs 0 (wr.alloc (.cells (zeros row.length) 3)) from ⟨HW.out.more hba, by rw [part_zero]; exact zeros_blk _ _ _⟩)
      have HLO := Lib.hid HW.out.below.size
      clear hv hcell hR hq hLEN hba HW
      go_wp2_with fail
      refine HLEN.out.mono ?_
      rintro e w1 ⟨rfl, rfl⟩
      go_wp2
      clear hmk hcell1 HLEN
      generalize wr.heap.size = nb at *
      go_loopw [24] (fun k wr => ∃ p : Nat, p ≤ row.length ∧ k = .int .i64 p ∧ WI2 w d j nb row fv iv mv bs p wr) (fun k _ => row.length - (intOf k).toNat)
      case atStart => exact ⟨0, Nat.zero_le _, rfl, HS2.out⟩
      case round =>
        clear HS2
        obtain ⟨p, hp, rfl, hW, hB⟩ := hrel
        have HW := Lib.hid hW
        have HB := Lib.hid hB
        clear hW hB
        by_cases hltp : p < row.length
        · have HLd := HH.out.below HW.out.drew.below
          have hn := HFO.out row[p] (List.getElem_mem hltp)
          have hget := getn_int R X _ HLd.stage.rep q _ HR.out p (by omega) (by simp only [List.length_map, HD.out]; omega)
          have hg2 : ((d.fields.getD j []).map (rp rs)).getD (p : Int).toNat none = rp rs row[p] := by
            rw [Int.toNat_natCast, getD_map _ _ _ 0 _ (by rw [HD.out]; exact hltp), HD.out, List.getD_eq_getElem?_getD, List.getElem?_eq_getElem hltp]; rfl
          simp only at hget
          rw [hg2] at hget
          have HGET := Lib.hid (calls_swap hget)
          have hidx := index_rs HLd HV1.out (by have := HRL.out; have := HF.out.l0; omega) (rp rs row[p]) (HLd.stage.okR _)
          rw [idx_rp HLd.stage.ndr hn.1 (by have := HRL.out; omega)] at hidx
          have HIDX := Lib.hid (calls_swap hidx)
          have HPS := Lib.hid (part_set row p hltp)
          have hcf : wr.cell? ⟨nb, p, none⟩ = some (.int .i64 0) := by
            rw [HB.out.cell]; unfold part
            have e : ((row.take p).map (Value.int .i64)).length = p := by simp; omega
            rw [List.getElem?_append_right (by omega), e, Nat.sub_self, List.getElem?_replicate, if_pos (by omega)]
          have hfr : wr.frozen? ⟨nb, p, none⟩ = false := HB.out.free _ rfl
          have hm0 := pw_cell_below HW.out.below HM0.out
          generalize row[p] = n at *
          clear hget hg2 hidx HLd hn
          go_wp2
          refine wp_region_still_tail 11 (by kernel_rfl) (by kernel_rfl) ?_
          simp only [List.take_succ_cons, List.take_zero, List.drop_succ_cons, List.drop_zero]
          iterate 8 still_step
          still_call (HGET.out)
          still_call (HIDX.out)
          still_step
          refine wpStill_nil ?_
          change wpList _ _ _ _ _ wr.drew
          have HB2 := Lib.hid (show WI2 w d j nb row fv iv mv bs (p + 1) (wr.drew.setCell ⟨nb, p, none⟩ (.int .i64 n)) from
            ⟨HW.out.drew.fr ((Fr.refl wr.drew _).setCell _ _ (fun _ => rfl)) (show Blk wr.drew nb TII (part row p) from HB.out) (by decide) HNB.out HLO.out, by rw [← HPS.out]; exact (show Blk wr.drew nb TII (part row p) from HB.out).set p _⟩)
          clear HB HW HGET HIDX HPS
          have hcf2 : wr.drew.cell? ⟨nb, p, none⟩ = some (.int .i64 0) := hcf
          have hfr2 : wr.drew.frozen? ⟨nb, p, none⟩ = false := hfr
          clear hm0 hcf hfr
          generalize wr.drew = wz at *
          go_wp2
          go_roundw
          case rel => exact ⟨p + 1, by omega, by go_num, HB2.out⟩
          case measure => simp [intOf]; omega
        · have hpe : p = row.length := by omega
          subst hpe
          have hlj : (d.fields.take j).length = j := by simp; omega
          have hli : (d.infos.take j).length = j := by have := HF.out.e1; simp; omega
          have hlm : (d.marks.take j).length = j := by have := HF.out.e2; simp; omega
          have HLJ := Lib.hid hlj
          have HLI := Lib.hid hli
          have HLM := Lib.hid hlm
          have hof := HW.out.out.f
          simp only [hlj] at hof
          have HOF := Lib.hid hof
          have hk0 : wr.cell? ⟨w.heap.size + 1, 0, none⟩ = some fv := HW.out.box.cell 0
          clear hlj hli hlm hof hltp hp
          go_wp2_with (at_builtin; refine print_append_cells w.heap.size rfl _ _ 22 23 (.slice none 0 0) 1 24 rfl Try.underlying22 pinfo_row rfl (by decide) (by decide) fv j _ [rowv nb row] rfl rfl rfl (by simp [Value.oneCell']) HOF.out HW.out.below HW.out.below.size (by have := HF.out.l0; omega) ?_)
          intro a1 w1 hown1 hb1 hg1 hat1
          obtain ⟨hc1, hf1, A1', c1', hv1⟩ := HW.out.after HOF.out (by decide) hg1 (j := 0) rfl hown1
          have hnb2 : ∀ k, (rowv nb row).ownBlock = some k → ¬ OutFoot fv iv mv (.slice none 0 0) (.slice none 0 0) bs k := by
            intro k hk
            have e : nb = k := by simpa [Value.ownBlock] using hk
            exact e ▸ HNB.out
          have HW1 := Lib.hid (HW.out.pushF hg1 (own_of_blk (by rw [← part_all]; exact HB.out) HLO.out (by have := hn64; omega)) hnb2 (by simp only [HLJ.out]; exact hown1))
          clear hown1 hb1 hg1 hat1 hk0 HW HOF HB HNB hnb2
          subst hv1
          simp only [HTK.out] at HW1
          go_wp2
          generalize (w1.setCell ⟨w.heap.size + 1, 0, none⟩ (.slice A1' (j + 1) c1')) = wq at *
          clear hc1 hf1
          have HWq := Lib.hid HW1.out.drew
          have HLq := Lib.hid (HH.out.below HWq.out.below)
          have hji : j < d.infos.length := by rw [HF.out.e1]; exact hjd
          have hn := HFI.out
          have hinf := infon_int R X wq.drew HLq.out.stage.rep q _ HR.out
          have hidx := index_xs HLq.out HV3.out (by have := HLq.out.hx; have := HF.out.l3; omega) (ip fs xs j (d.infos.getD j 0)) (HLq.out.stage.rep.okInfo HR.out)
          rw [idx_ip HLq.out.stage.ndx (by omega) (by have := HLq.out.hr; have := HLq.out.stage.len; omega) hn.1 (by have := HLq.out.hx; omega)] at hidx
          have HTI := Lib.hid (show d.infos.take j ++ [d.infos.getD j 0] = d.infos.take (j + 1) by rw [← take_one d.infos j hji]; simp [List.getD_eq_getElem?_getD, List.getElem?_eq_getElem hji])
          simp only at hinf
          generalize ip fs xs j (d.infos.getD j 0) = px at *
          generalize d.infos.getD j 0 = n at *
          have HINF := Lib.hid (calls_swap hinf)
          have HIDX := Lib.hid (calls_swap hidx)
          have hoi := HWq.out.out.i
          simp only [HLI.out] at hoi
          have HOI := Lib.hid hoi
          have hk1 : wq.cell? ⟨w.heap.size + 1, 1, none⟩ = some iv := HWq.out.box.cell 1
          have hk2 : (wq.alloc (Obj.cells #[.int .i64 n] 3)).cell? ⟨w.heap.size + 1, 1, none⟩ = some iv := cell_alloc_drew _ hk1
          have hm2 : wq.cell? ⟨m, 2, none⟩ = some (.slice A3 xs.length k3) := pw_cell_below HWq.out.below HM2.out
          clear hinf hidx hn hoi hji
          apply cut_post (N := fun A k w' => WAt w ⟨d.fields.take (j + 1), d.infos.take (j + 1), d.marks.take j, [], []⟩ (.slice A1' (j + 1) c1') (.slice A (j + 1) k) mv (.slice none 0 0) (.slice none 0 0) (bs ++ [rowv nb row]) w')
          case h1 =>
            --[
            go_region_law (first
              | (go_simp; go_at_call 71; refine HINF.out.mono ?_; rintro e w' ⟨rfl, rfl⟩)
              | (go_simp; go_at_call 96; refine HIDX.out.mono ?_; rintro e w' ⟨rfl, rfl⟩)
              | (refine step_append_cells (W := wq.drew) w.heap.size (by rfl) _ _ 23 3 (.int .i64 0) 1 8 rfl Try.underlying23 pinfo_int rfl (by decide) (by decide) iv j _ [.int .i64 n] rfl rfl rfl (by simp [Value.oneCell']) HOI.out HWq.out.below HWq.out.below.size (by have := HF.out.l0; omega) ?_
                 intro a2 w3 hown2 hb2 hg2 hat2
                 have HW3 := Lib.hid (HWq.out.pushI hg2 (by simp only [HLI.out]; exact hown2) hat2)
                 obtain ⟨hc2, hf2, A2', c2', hv2⟩ := HWq.out.after HOI.out (by decide) hg2 (j := 1) rfl hown2
                 clear hown2 hb2 hg2 hat2
                 subst hv2
                 simp only [HTI.out] at HW3))
            all_goals exact ⟨_, _, rfl, HW3.out⟩
            --]
          case h2 =>
            intro A2' c2' wq2 hW2
            have HW2 := Lib.hid hW2
            clear hW2 hk1 hk2 hm2 HINF HIDX HOI HW1 HWq HLq
            go_wp2
            have HWr := Lib.hid HW2.out.drew
            have HLr := Lib.hid (HH.out.below HWr.out.below)
            have hjm : j < d.marks.length := by rw [HF.out.e2]; exact hjd
            have hmk := markedn HLr.out.stage.rep q _ HR.out
            have HTM := Lib.hid (show d.marks.take j ++ [d.marks.getD j false] = d.marks.take (j + 1) by rw [← take_one d.marks j hjm]; simp [List.getD_eq_getElem?_getD, List.getElem?_eq_getElem hjm])
            simp only at hmk
            generalize d.marks.getD j false = mk at *
            have HMARK := Lib.hid (calls_swap hmk)
            have hom := HWr.out.out.m
            simp only [HLM.out] at hom
            have HOM := Lib.hid hom
            have hk1 : wq2.cell? ⟨w.heap.size + 1, 2, none⟩ = some mv := HWr.out.box.cell 2
            have hk2 : (wq2.alloc (Obj.cells #[.bool mk] 4)).cell? ⟨w.heap.size + 1, 2, none⟩ = some mv := cell_alloc_drew _ hk1
            clear hmk hom hjm
            apply cut_post (N := fun A k w' => WAt w ⟨d.fields.take (j + 1), d.infos.take (j + 1), d.marks.take (j + 1), [], []⟩ (.slice A1' (j + 1) c1') (.slice A2' (j + 1) c2') (.slice A (j + 1) k) (.slice none 0 0) (.slice none 0 0) (bs ++ [rowv nb row]) w')
            case h1 =>
              --[
              go_region_law (first
                | (go_simp; go_at_call 97; refine HMARK.out.mono ?_; rintro e w' ⟨rfl, rfl⟩)
                | (refine step_append_cells (W := wq2.drew) w.heap.size (by rfl) _ _ 24 4 (.bool false) 1 1 rfl Try.underlying24 pinfo_bool rfl (by decide) (by decide) mv j _ [.bool mk] rfl rfl rfl (by simp [Value.oneCell']) HOM.out HWr.out.below HWr.out.below.size (by have := HF.out.l0; omega) ?_
                   intro a2 w3 hown2 hb2 hg2 hat2
                   have HW3 := Lib.hid (HWr.out.pushM hg2 (by simp only [HLM.out]; exact hown2) hat2)
                   obtain ⟨hc2, hf2, A3', c3', hv2⟩ := HWr.out.after HOM.out (by decide) hg2 (j := 2) rfl hown2
                   clear hown2 hb2 hg2 hat2
                   subst hv2
                   simp only [HTM.out] at HW3))
              all_goals exact ⟨_, _, rfl, HW3.out⟩
              --]
            case h2 =>
              intro A3' c3' wq3 hW3
              have HW4 := Lib.hid hW3
              clear hW3 hk1 hk2 HMARK HOM HW2 HWr HLr
              go_wp2
              go_roundw
              case rel => exact ⟨j + 1, by omega, by go_num, _, _, _, _, HW4.out⟩
              case measure => simp [intOf]; omega
    · have hje : j = rs.length := by omega
      subst hje
      have HS3 := Lib.hid (show WI3 w d 0 wr from ⟨fv, iv, mv, _, _, bs, by
        have h1 := HW.out
        rw [List.take_of_length_le (by rw [HRL.out]; exact Nat.le_refl _), List.take_of_length_le (by rw [HF.out.e1, HRL.out]; exact Nat.le_refl _), List.take_of_length_le (by rw [HF.out.e2, HRL.out]; exact Nat.le_refl _)] at h1
        exact h1⟩)
      have hm2 := pw_cell_below HW.out.below HM2.out
      clear HW hlt hj
      go_wp2
      go_loopw [70] (fun k wr => ∃ j : Nat, j ≤ xs.length ∧ k = .int .i64 j ∧ WI3 w d j wr) (fun k _ => xs.length - (intOf k).toNat)
      case atStart => exact ⟨0, Nat.zero_le _, rfl, HS3.out⟩
      case round =>
        clear HS3 hm2
        obtain ⟨j, hj, rfl, fv, iv, mv, sv, zv, bs, hW⟩ := hrel
        have HW := Lib.hid hW
        clear hW
        by_cases hlt : j < xs.length
        · have hjd : j < d.states.length := by rw [← HH.out.hx]; exact hlt
          have hjz : j < d.frozen.length := by rw [HF.out.e4]; exact hjd
          obtain ⟨b0, k0, hv, hcell⟩ := owns_at HH.out.made.o3 hlt
          rw [HV3.out] at hv
          have hA1 := (Value.slice.inj hv).1
          subst hA1
          obtain ⟨q, s, hq, hX, hp⟩ := HH.out.scx hjd
          rw [hq] at hcell
          have hcell1 : _ = some (Value.pointer (some ⟨q, 0, none⟩)) := pw_cell_below HW.out.below hcell
          have HX := Lib.hid hX
          have HP := Lib.hid hp
          have hS := HF.out.hS _ (getD_mem hjd 0)
          have HTS := Lib.hid (show d.states.take j ++ [s.state] = d.states.take (j + 1) by rw [hp.1, ← take_one d.states j hjd]; simp [List.getD_eq_getElem?_getD, List.getElem?_eq_getElem hjd])
          have HTZ := Lib.hid (show d.frozen.take j ++ [s.frozen] = d.frozen.take (j + 1) by rw [hp.2, ← take_one d.frozen j hjz]; simp [List.getD_eq_getElem?_getD, List.getElem?_eq_getElem hjz])
          have hs0 : 0 ≤ s.state := by rw [hp.1]; exact hS.1
          have hs1 : s.state ≤ 1000 := by rw [hp.1]; omega
          have hls : (d.states.take j).length = j := by simp; omega
          have hlz : (d.frozen.take j).length = j := by simp; omega
          have HLS := Lib.hid hls
          have HLZ := Lib.hid hlz
          have HWq := Lib.hid HW.out.drew
          have HST := Lib.hid (calls_swap (staten_int R X _ (HH.out.below HWq.out.below).stage.rep q _ hX hs0 hs1))
          have hos := HWq.out.out.s
          simp only [hls] at hos
          have HOS := Lib.hid hos
          have hk1 : wr.cell? ⟨w.heap.size + 1, 3, none⟩ = some sv := HW.out.box.cell 3
          have hk2 : (wr.alloc (Obj.cells #[.int .i64 s.state] 3)).cell? ⟨w.heap.size + 1, 3, none⟩ = some sv := cell_alloc_drew _ hk1
          clear hv hcell hq hX hp hS hs0 hs1 hls hlz hos
          have HTS' := HTS
          have HFZ := Lib.hid (show s.frozen = s.frozen from rfl)
          go_wp2
          apply cut_post (N := fun A k w' => WAt w ⟨d.fields, d.infos, d.marks, d.states.take (j + 1), d.frozen.take j⟩ fv iv mv (.slice A (j + 1) k) zv bs w')
          case h1 =>
            --[
            go_region_law (first
              | (go_simp; go_at_call 99; refine HST.out.mono ?_; rintro e w' ⟨rfl, rfl⟩)
              | (refine step_append_cells (W := wr.drew) w.heap.size (by rfl) _ _ 23 3 (.int .i64 0) 1 8 rfl Try.underlying23 pinfo_int rfl (by decide) (by decide) sv j _ [.int .i64 s.state] rfl rfl rfl (by simp [Value.oneCell']) HOS.out HWq.out.below HWq.out.below.size (by have := HF.out.l3; omega) ?_
                 intro a2 w3 hown2 hb2 hg2 hat2
                 have HW3 := Lib.hid (HWq.out.pushS hg2 (by simp only [HLS.out]; exact hown2) hat2)
                 obtain ⟨hc2, hf2, A2', c2', hv2⟩ := HWq.out.after HOS.out (by decide) hg2 (j := 3) rfl hown2
                 clear hown2 hb2 hg2 hat2
                 subst hv2
                 simp only [HTS.out] at HW3))
            all_goals exact ⟨_, _, rfl, HW3.out⟩
            --]
          case h2 =>
            intro A2' c2' wq2 hW2
            have HW2 := Lib.hid hW2
            clear hW2 hk1 hk2 HOS HWq HW HST hcell1
            have HWr := Lib.hid HW2.out.drew
            have HAZ := Lib.hid (calls_swap (allfrozenn (HH.out.below HWr.out.below).stage.rep q _ HX.out))
            have hoz := HWr.out.out.z
            simp only [HLZ.out] at hoz
            have HOZ := Lib.hid hoz
            have hk1 : wq2.cell? ⟨w.heap.size + 1, 4, none⟩ = some zv := HW2.out.box.cell 4
            have hk2 : (wq2.alloc (Obj.cells #[.bool s.frozen] 4)).cell? ⟨w.heap.size + 1, 4, none⟩ = some zv := cell_alloc_drew _ hk1
            clear hoz
            go_wp2
            apply cut_post (N := fun A k w' => WAt w ⟨d.fields, d.infos, d.marks, d.states.take (j + 1), d.frozen.take (j + 1)⟩ fv iv mv (.slice A2' (j + 1) c2') (.slice A (j + 1) k) bs w')
            case h1 =>
              --[
              go_region_law (first
                | (go_simp; go_at_call 72; refine HAZ.out.mono ?_; rintro e w' ⟨rfl, rfl⟩)
                | (refine step_append_cells (W := wq2.drew) w.heap.size (by rfl) _ _ 24 4 (.bool false) 1 1 rfl Try.underlying24 pinfo_bool rfl (by decide) (by decide) zv j _ [.bool s.frozen] rfl rfl rfl (by simp [Value.oneCell']) HOZ.out HWr.out.below HWr.out.below.size (by have := HF.out.l3; omega) ?_
                   intro a2 w3 hown2 hb2 hg2 hat2
                   have HW3 := Lib.hid (HWr.out.pushZ hg2 (by simp only [HLZ.out]; exact hown2) hat2)
                   obtain ⟨hc2, hf2, A3', c3', hv2⟩ := HWr.out.after HOZ.out (by decide) hg2 (j := 4) rfl hown2
                   clear hown2 hb2 hg2 hat2
                   subst hv2
                   simp only [HTZ.out] at HW3))
              all_goals exact ⟨_, _, rfl, HW3.out⟩
              --]
            case h2 =>
              intro A3' c3' wq3 hW3
              have HW4 := Lib.hid hW3
              clear hW3 hk1 hk2 HAZ HOZ HW2 HWr
              go_wp2
              go_roundw
              case rel => exact ⟨j + 1, by omega, by go_num, _, _, _, _, _, _, HW4.out⟩
              case measure => simp [intOf]; omega
        · have hje : j = xs.length := by omega
          subst hje
          have h1 := HW.out
          rw [List.take_of_length_le (by rw [HH.out.hx]; exact Nat.le_refl _), List.take_of_length_le (by rw [HF.out.e4, HH.out.hx]; exact Nat.le_refl _)] at h1
          have HW1 := Lib.hid h1
          have hb0 := h1.box.cell 0
          have hb1 := h1.box.cell 1
          have hb2 := h1.box.cell 2
          have hb3 := h1.box.cell 3
          have hb4 := h1.box.cell 4
          have hr0 := h1.res.cell 0
          have hr1 := h1.res.cell 1
          have hr2 := h1.res.cell 2
          have hr3 := h1.res.cell 3
          have hr4 := h1.res.cell 4
          have hf0 := h1.res.free ⟨w.heap.size, 0, none⟩ rfl
          have hf1 := h1.res.free ⟨w.heap.size, 1, none⟩ rfl
          have hf2 := h1.res.free ⟨w.heap.size, 2, none⟩ rfl
          have hf3 := h1.res.free ⟨w.heap.size, 3, none⟩ rfl
          have hf4 := h1.res.free ⟨w.heap.size, 4, none⟩ rfl
          simp only [List.getElem?_cons_zero, List.getElem?_cons_succ] at hb0 hb1 hb2 hb3 hb4 hr0 hr1 hr2 hr3 hr4
          have HEND := Lib.hid (show ∀ w', Fr wr w' (fun k => k = w.heap.size) → Below w.heap.size w w' ∧ OutW w.heap.size d fv iv mv sv zv bs w' from fun w' hf =>
            ⟨h1.below.trans (hf.below h1.below.size (fun k hk => hk ▸ Nat.le_refl _)), h1.out.other hf (fun k hk => ⟨TWD, _, hk ▸ h1.res, by decide, by decide, by decide⟩)⟩)
          obtain ⟨Af, cf, ef, _, _⟩ := owns_slice h1.out.f
          obtain ⟨Ai, ci, ei, _, _⟩ := owns_slice h1.out.i
          obtain ⟨Am, cm, em, _, _⟩ := owns_slice h1.out.m
          obtain ⟨As, cs, es, _, _⟩ := owns_slice h1.out.s
          obtain ⟨Az, cz, ez, _, _⟩ := owns_slice h1.out.z
          simp only at ef ei em es ez
          subst ef ei em es ez
          have HRES := Lib.hid h1.res
          clear HW h1 hlt hj HW1
          have hblk : ∀ wz, wz = ((((wr.setCell ⟨w.heap.size, 0, none⟩ (.slice Af d.fields.length cf)).setCell ⟨w.heap.size, 1, none⟩ (.slice Ai d.infos.length ci)).setCell ⟨w.heap.size, 2, none⟩ (.slice Am d.marks.length cm)).setCell ⟨w.heap.size, 3, none⟩ (.slice As d.states.length cs)).setCell ⟨w.heap.size, 4, none⟩ (.slice Az d.frozen.length cz) →
              wz.heap[w.heap.size]? = some (.cells #[.slice Af d.fields.length cf, .slice Ai d.infos.length ci, .slice Am d.marks.length cm, .slice As d.states.length cs, .slice Az d.frozen.length cz] TWD (0, 0)) := fun wz e => by
            subst e
            exact ((((HRES.out.set 0 _).set 1 _).set 2 _).set 3 _).set 4 _
          have HBLK := Lib.hid hblk
          clear hblk
          go_wp2
          (try simp only [Exit.inBlock, Exit.then])
          refine bodyPost_ret (results_cell_row rfl _ _ w.heap.size TWD _ (0, 0) _ rfl (HBLK.out _ rfl) Try.underlying36 rfl wsize) rfl ?_
          refine HQ'.out _ _ ⟨_, _, _, _, _, bs, rfl, HEND.out _ ?_⟩
          repeat refine Fr.setCell ?_ _ _ (fun _ => rfl)
          exact Fr.refl _ _
end Go.Proofs.Ytphhdmopfmelbaa
