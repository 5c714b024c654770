/- record: made. -/
import Derived.Test.YtphhdmopfmelbaaRecA
import Derived.Test.YtphhdmopfmelbaaRecSet
import Derived.Deep.RegionLaw
namespace Go.Proofs.Ytphhdmopfmelbaa
open Go.RowKit Go.Proofs.YtphhdmopfmelbaaW.PrintWords
set_option linter.unusedVariables false
set_option linter.unusedSimpArgs false

theorem pinfo_rec : (Try.prog.info? 150).map (fun i => (i.zero, i.size, i.bytes)) = some (some (.pointer none), 1, 8) := by kernel_rfl
theorem pinfo_scx : (Try.prog.info? 81).map (fun i => (i.zero, i.size, i.bytes)) = some (some (.pointer none), 1, 8) := by kernel_rfl

abbrev TWD : Nat := 36
/-- What made has while it goes: the world's box, the live world (its lists: rsm, fsm, xsm), what stands in memory. -/
structure MInv (w : World) (bx m : Nat) (v : WV) (d : WD) (wr : World) (R : Nat → Option RecO) (X : Nat → Option ScxO) (rsm fsm xsm rs fs xs : List Nat) (v1 v2 v3 : Value) (F : Nat → List (Option Nat)) (I : Nat → Option Nat) (M : Nat → Bool) (P : Nat → ScxO → Prop) : Prop where
  made : MadeAt TLV wr w.heap.size m rsm fsm xsm v1 v2 v3
  stage : Stage wr w.heap.size R X rs fs xs F I M P
  box : Blk wr bx TWD (v.cells d)
  below : Below w.heap.size w wr
  hm : w.heap.size ≤ m
section
variable {w wr w1 : World} {bx m b : Nat} {v : WV} {d : WD} {R R' : Nat → Option RecO} {X X' : Nat → Option ScxO} {rsm fsm xsm rs fs xs rs' fs' xs' : List Nat} {v1 v2 v3 v' : Value} {F F' : Nat → List (Option Nat)} {I I' : Nat → Option Nat} {M M' : Nat → Bool} {P P' : Nat → ScxO → Prop}
/-- New blocks alone: the stage has turned. -/
theorem MInv.grow (h : MInv w bx m v d wr R X rsm fsm xsm rs fs xs v1 v2 v3 F I M P) (hb : Below wr.heap.size wr w1) (hs : Stage w1 w.heap.size R' X' rs' fs' xs' F' I' M' P') : MInv w bx m v d w1 R' X' rsm fsm xsm rs' fs' xs' v1 v2 v3 F' I' M' P' :=
  ⟨h.made.below hb, hs, h.box.below hb h.box.lt, h.below.trans (hb.mono h.below.size), h.hm⟩
theorem MInv.drew (h : MInv w bx m v d wr R X rsm fsm xsm rs fs xs v1 v2 v3 F I M P) : MInv w bx m v d wr.drew R X rsm fsm xsm rs fs xs v1 v2 v3 F I M P := h.grow (Below.refl _ _).drew (h.stage.below (Below.refl _ _).drew)
theorem MInv.pushed (h : MInv w bx m v d wr R X rsm fsm xsm rs fs xs v1 v2 v3 F I M P) {u : Value} {e n : Nat} {us : List Value} (ho : wr.ownsRow w.heap.size e 1 u n us) (he : e = TPR ∨ e = TPX) (hg : wr.grownBy w1 u.ownBlock) (j : Nat) :
    Stage (w1.setCell ⟨m, j, none⟩ v') w.heap.size R X rs fs xs F I M P ∧ Blk (w1.setCell ⟨m, j, none⟩ v') bx TWD (v.cells d) ∧ Below w.heap.size w (w1.setCell ⟨m, j, none⟩ v') := by
  have hf : Fr wr (w1.setCell ⟨m, j, none⟩ v') (Pushed m u) := pushed_fr hg
  have ht := fun k hk => pushed_types h.made.blk ho (k := k) hk
  refine ⟨h.stage.rep' (h.stage.rep.types hf (fun k hk => ?_)), hf.blk h.box (fun hk => ?_), h.below.trans (hf.below h.below.size (fun k hk => ?_))⟩
  · obtain ⟨T, ys, hb, hT⟩ := ht k hk
    refine ⟨T, ys, hb, ?_⟩
    rcases hT with rfl | rfl
    · decide
    · rcases he with rfl | rfl <;> decide
  · obtain ⟨T, ys, hb, hT⟩ := ht _ hk
    have hTW := (hb.inj h.box).1
    rcases hT with rfl | rfl
    · exact absurd hTW (by decide)
    · rcases he with rfl | rfl <;> exact absurd hTW (by decide)
  · rcases hk with rfl | hk
    · exact h.hm
    · exact (World.ownsRow.lt ho k hk.symm).1
theorem MInv.push1 (h : MInv w bx m v d wr R X rsm fsm xsm rs fs xs v1 v2 v3 F I M P) (hg : wr.grownBy w1 v1.ownBlock) (ho : w1.ownsRow w.heap.size TPR 1 v' (rsm.length + 1) ((rsm.map fun b => pv (some b)) ++ [pv (some b)])) :
    MInv w bx m v d (w1.setCell ⟨m, 0, none⟩ v') R X (rsm ++ [b]) fsm xsm rs fs xs v' v2 v3 F I M P :=
  let ⟨a, c, e⟩ := h.pushed h.made.o1 (.inl rfl) hg 0
  ⟨h.made.push1 (by decide) hg ho, a, c, e, h.hm⟩
theorem MInv.push2 (h : MInv w bx m v d wr R X rsm fsm xsm rs fs xs v1 v2 v3 F I M P) (hg : wr.grownBy w1 v2.ownBlock) (ho : w1.ownsRow w.heap.size TPX 1 v' (fsm.length + 1) ((fsm.map fun b => pv (some b)) ++ [pv (some b)]))
    (hat : v'.ownBlock = v2.ownBlock ∨ ∃ b, v'.ownBlock = some b ∧ wr.heap.size ≤ b) : MInv w bx m v d (w1.setCell ⟨m, 1, none⟩ v') R X rsm (fsm ++ [b]) xsm rs fs xs v1 v' v3 F I M P :=
  let ⟨a, c, e⟩ := h.pushed h.made.o2 (.inr rfl) hg 1
  ⟨h.made.push2 (by decide) hg ho hat, a, c, e, h.hm⟩
theorem MInv.push3 (h : MInv w bx m v d wr R X rsm fsm xsm rs fs xs v1 v2 v3 F I M P) (hg : wr.grownBy w1 v3.ownBlock) (ho : w1.ownsRow w.heap.size TPX 1 v' (xsm.length + 1) ((xsm.map fun b => pv (some b)) ++ [pv (some b)]))
    (hat : v'.ownBlock = v3.ownBlock ∨ ∃ b, v'.ownBlock = some b ∧ wr.heap.size ≤ b) : MInv w bx m v d (w1.setCell ⟨m, 2, none⟩ v') R X rsm fsm (xsm ++ [b]) rs fs xs v1 v2 v' F I M P :=
  let ⟨a, c, e⟩ := h.pushed h.made.o3 (.inr rfl) hg 2
  ⟨h.made.push3 (by decide) hg ho hat, a, c, e, h.hm⟩
theorem MInv.at0 (h : MInv w bx m v d wr R X rsm fsm xsm rs fs xs v1 v2 v3 F I M P) : wr.cell? ⟨m, 0, none⟩ = some v1 := by rw [h.made.blk.cell]; rfl
theorem MInv.at1 (h : MInv w bx m v d wr R X rsm fsm xsm rs fs xs v1 v2 v3 F I M P) : wr.cell? ⟨m, 1, none⟩ = some v2 := by rw [h.made.blk.cell]; rfl
theorem MInv.at2 (h : MInv w bx m v d wr R X rsm fsm xsm rs fs xs v1 v2 v3 F I M P) : wr.cell? ⟨m, 2, none⟩ = some v3 := by rw [h.made.blk.cell]; rfl
end
/-- Behind the append the struct's cells are as they were. -/
theorem after_append {wr w1 : World} {m j e n B TM : Nat} {u x v' : Value} {us ms : List Value} (hm : Blk wr m TM ms) (ho : wr.ownsRow B e 1 u n us) (hne : TM ≠ e) (hg : wr.grownBy w1 u.ownBlock) (hx : ms[j]? = some x) (n' : Nat) {us' : List Value} (ho' : w1.ownsRow B e 1 v' n' us') :
    w1.cell? ⟨m, j, none⟩ = some x ∧ w1.frozen? ⟨m, j, none⟩ = false ∧ ∃ A c, v' = .slice A n' c := by
  have hm1 : Blk w1 m TM ms := (Fr.of_grown hg).blk hm (fun e2 => by
    obtain ⟨c, hc⟩ := owns_typed ho m e2.symm
    exact hne (hm.inj hc).1)
  obtain ⟨A, c, hv, _⟩ := owns_slice ho'
  exact ⟨by rw [hm1.cell]; exact hx, hm1.free _ rfl, A, c, hv⟩
theorem cell_alloc_drew {w : World} {a : Addr} {v : Value} (o : Obj) (h : w.cell? a = some v) : (w.alloc o).drew.cell? a = some v := by
  show (w.alloc o).cell? a = some v
  rw [World.cell?_alloc_some _ _ _ (by rw [h]; rfl)]; exact h
/-- After j records. -/
def MI1 (w : World) (bx m : Nat) (v : WV) (d : WD) (j : Nat) (wr : World) : Prop :=
  ∃ R X rs fs v1 v2, rs.length = j ∧ MInv w bx m v d wr R X rs fs [] rs fs [] v1 v2 (.slice none 0 0) (fun i => List.replicate (d.fields.getD i []).length none) (fun i => fs[i]?) (fun _ => false) (fun _ _ => True)

theorem MI1.start (w : World) (v : WV) (d : WD) : MI1 w w.heap.size (w.heap.size + 1) v d 0 ((w.alloc (.cells (v.cells d).toArray TWD)).alloc (.cells #[.slice none 0 0, .slice none 0 0, .slice none 0 0] TLV)) := by
  refine ⟨fun _ => none, fun _ => none, [], [], .slice none 0 0, .slice none 0 0, rfl, ⟨?_, World.ownsRow_nil _ _ _ _, World.ownsRow_nil _ _ _ _, World.ownsRow_nil _ _ _ _, (fun k hk => by cases hk)⟩, ⟨Rep.empty _ _ _ _ _, by simp, by simp, rfl, (fun i b hb => by simp at hb), (fun i b hb => by simp at hb), (fun b hb => by simp at hb), (fun b hb => by simp at hb)⟩, ?_, ?_, ?_⟩
  · have := Blk.new (w.alloc (.cells (v.cells d).toArray TWD)) TLV [.slice none 0 0, .slice none 0 0, .slice none 0 0]
    simpa using this
  · exact (Blk.new w TWD (v.cells d)).alloc _
  · exact ((Below.refl w.heap.size w).alloc (Nat.le_refl _) _).alloc (by simp) _
  · omega

def PP (d : WD) (i : Nat) (s : ScxO) : Prop := s.state = d.states.getD i 0 ∧ s.frozen = d.frozen.getD i false
/-- After the records and j SCX-records. -/
def MI2 (w : World) (bx m : Nat) (v : WV) (d : WD) (j : Nat) (wr : World) : Prop :=
  ∃ R X rs fs xs v1 v2 v3, rs.length = d.fields.length ∧ xs.length = j ∧ MInv w bx m v d wr R X rs fs xs rs fs xs v1 v2 v3 (fun i => List.replicate (d.fields.getD i []).length none) (fun i => fs[i]?) (fun _ => false) (PP d)
theorem MI2.start {w : World} {bx m : Nat} {v : WV} {d : WD} {wr : World} {R : Nat → Option RecO} {X : Nat → Option ScxO} {rs fs : List Nat} {v1 v2 : Value} (hl : rs.length = d.fields.length)
    (h : MInv w bx m v d wr R X rs fs [] rs fs [] v1 v2 (.slice none 0 0) (fun i => List.replicate (d.fields.getD i []).length none) (fun i => fs[i]?) (fun _ => false) (fun _ _ => True)) : MI2 w bx m v d 0 wr :=
  ⟨R, X, rs, fs, [], v1, v2, _, hl, rfl, h.made, h.stage.cong (fun _ _ => rfl) (fun _ _ => rfl) (fun _ _ => rfl) (fun i s hi => by simp at hi), h.box, h.below, h.hm⟩

/-- Fields, infos, marks while the third loop goes: j records done, of record j k fields. -/
def FF (rs : List Nat) (d : WD) (j k i : Nat) : List (Option Nat) := if i < j then (d.fields.getD i []).map (rp rs) else if i = j then ((d.fields.getD i []).take k).map (rp rs) ++ List.replicate ((d.fields.getD i []).length - k) none else List.replicate (d.fields.getD i []).length none
def II (fs xs : List Nat) (d : WD) (j i : Nat) : Option Nat := if i < j then ip fs xs i (d.infos.getD i 0) else fs[i]?
def MM (d : WD) (j i : Nat) : Bool := if i < j then d.marks.getD i false else false
theorem FF_zero (rs : List Nat) (d : WD) (i : Nat) : List.replicate (d.fields.getD i []).length none = FF rs d 0 0 i := by
  unfold FF; simp
theorem FF_next (rs : List Nat) (d : WD) (j i : Nat) : FF rs d j (d.fields.getD j []).length i = FF rs d (j + 1) 0 i := by
  unfold FF
  rcases Nat.lt_trichotomy i j with h | h | h
  · simp [h, show i < j + 1 by omega]
  · subst h; simp
  · simp [show ¬ i < j by omega, show ¬ i = j by omega, show ¬ i < j + 1 by omega]
theorem II_next (fs xs : List Nat) (d : WD) (j i : Nat) : (if i = j then ip fs xs j (d.infos.getD j 0) else II fs xs d j i) = II fs xs d (j + 1) i := by
  unfold II
  rcases Nat.lt_trichotomy i j with h | h | h
  · simp [h, show ¬ i = j by omega, show i < j + 1 by omega]
  · subst h; simp
  · simp [show ¬ i < j by omega, show ¬ i = j by omega, show ¬ i < j + 1 by omega]
theorem MM_next (d : WD) (j i : Nat) : (if i = j then d.marks.getD j false else MM d j i) = MM d (j + 1) i := by
  unfold MM
  rcases Nat.lt_trichotomy i j with h | h | h
  · simp [h, show ¬ i = j by omega, show i < j + 1 by omega]
  · subst h; simp
  · simp [show ¬ i < j by omega, show ¬ i = j by omega, show ¬ i < j + 1 by omega]
theorem FF_len (rs : List Nat) (d : WD) (j k : Nat) (hk : k ≤ (d.fields.getD j []).length) : (FF rs d j k j).length = (d.fields.getD j []).length := by
  unfold FF; simp only [Nat.lt_irrefl, if_false, if_true, List.length_append, List.length_map, List.length_take, List.length_replicate]; omega
theorem FF_step (rs : List Nat) (d : WD) (j k i : Nat) (hk : k < (d.fields.getD j []).length) : (if i = j then (FF rs d j k j).set k (rp rs ((d.fields.getD j [])[k])) else FF rs d j k i) = FF rs d j (k + 1) i := by
  unfold FF
  rcases Nat.lt_trichotomy i j with h | h | h
  · simp [h, show ¬ i = j by omega]
  · subst h
    simp only [Nat.lt_irrefl, if_false, if_true]
    generalize d.fields.getD i [] = row at *
    rw [List.set_append_right _ _ (by simp; omega)]
    simp only [List.length_map, List.length_take, Nat.min_eq_left (Nat.le_of_lt hk), Nat.sub_self]
    rw [show row.length - k = (row.length - (k + 1)) + 1 by omega, List.replicate_succ, List.set_cons_zero, List.take_add_one, List.getElem?_eq_getElem hk, List.map_append, List.append_assoc]
    rfl
  · simp [show ¬ i < j by omega, show ¬ i = j by omega]
/-- What made holds between two steps of its third loop. -/
def MAt (w : World) (bx m : Nat) (v : WV) (d : WD) (rs fs xs : List Nat) (v1 v2 v3 : Value) (F : Nat → List (Option Nat)) (I : Nat → Option Nat) (M : Nat → Bool) (wr : World) : Prop :=
  ∃ R X, MInv w bx m v d wr R X rs fs xs rs fs xs v1 v2 v3 F I M (PP d)
section
variable {w wr w1 : World} {bx m b : Nat} {v : WV} {d : WD} {R R' : Nat → Option RecO} {X X' : Nat → Option ScxO} {rs fs xs : List Nat} {v1 v2 v3 : Value} {F F' : Nat → List (Option Nat)} {I I' : Nat → Option Nat} {M M' : Nat → Bool} {P P' : Nat → ScxO → Prop}
theorem MInv.cong (h : MInv w bx m v d wr R X rs fs xs rs fs xs v1 v2 v3 F I M P) (h1 : ∀ i, F i = F' i) (h2 : ∀ i, I i = I' i) (h3 : ∀ i, M i = M' i) : MInv w bx m v d wr R X rs fs xs rs fs xs v1 v2 v3 F' I' M' P :=
  ⟨h.made, h.stage.cong (fun i _ => h1 i) (fun i _ => h2 i) (fun i _ => h3 i) (fun _ _ _ h => h), h.box, h.below, h.hm⟩
/-- Record i has turned. -/
theorem MInv.turn (h : MInv w bx m v d wr R X rs fs xs rs fs xs v1 v2 v3 F I M P) {i fb : Nat} (hi : rs[i]? = some b) (ho : R b = some ⟨[.int .i64 (i : Int)], fb, F i, I i, M i⟩) {fl : List (Option Nat)} {inf : Option Nat} {mk : Bool} {c : Nat} (hc : c = b ∨ c = fb) (hf : Fr wr w1 (fun k => k = c))
    (hrep : Repint w1 (upd R b ⟨[.int .i64 (i : Int)], fb, fl, inf, mk⟩) X) :
    MInv w bx m v d w1 (upd R b ⟨[.int .i64 (i : Int)], fb, fl, inf, mk⟩) X rs fs xs rs fs xs v1 v2 v3 (fun k => if k = i then fl else F k) (fun k => if k = i then inf else I k) (fun k => if k = i then mk else M k) P := by
  have hT : w.heap.size ≤ c ∧ ∃ T ys, Blk wr c T ys ∧ T ≠ TLV ∧ T ≠ TPR ∧ T ≠ TPX ∧ T ≠ TWD := by
    rcases hc with rfl | rfl
    · exact ⟨h.stage.lo _ (by simp [List.mem_of_getElem? hi]), _, _, (h.stage.rep.recs _ _ ho).1, by decide, by decide, by decide, by decide⟩
    · obtain ⟨fb', h1, h2⟩ := h.stage.r i b hi
      rw [ho] at h1
      have : c = fb' := by simpa using congrArg RecO.fb (Option.some.inj h1)
      subst this
      exact ⟨h2, _, _, h.stage.rep.fld _ _ ho, by decide, by decide, by decide, by decide⟩
  obtain ⟨hge, T, ys, hb, h1, h2, h3, h4⟩ := hT
  exact ⟨h.made.types hf (fun k hk => by subst hk; exact ⟨T, ys, hb, h1, h2, h3⟩), h.stage.setRec hi ho hrep, hf.blk h.box (fun e => by subst e; exact h4 (hb.inj h.box).1), h.below.trans (hf.below h.below.size (fun k hk => hk ▸ hge)), h.hm⟩
end
/-- A world stands as records: what made leaves. -/
structure LiveAt (d : WD) (B m : Nat) (w : World) (R : Nat → Option RecO) (X : Nat → Option ScxO) (rs fs xs : List Nat) (v1 v2 v3 : Value) : Prop where
  hr : rs.length = d.fields.length
  hx : xs.length = d.states.length
  made : MadeAt TLV w B m rs fs xs v1 v2 v3
  stage : Stage w B R X rs fs xs (fun i => (d.fields.getD i []).map (rp rs)) (fun i => ip fs xs i (d.infos.getD i 0)) (fun i => d.marks.getD i false) (PP d)
  hm : B ≤ m
def Live (d : WD) (B m : Nat) (w : World) : Prop := ∃ R X rs fs xs v1 v2 v3, LiveAt d B m w R X rs fs xs v1 v2 v3
theorem MAt.live {w wr : World} {bx m : Nat} {v : WV} {d : WD} {rs fs xs : List Nat} {v1 v2 v3 : Value} (hr : rs.length = d.fields.length) (hx : xs.length = d.states.length)
    (h : MAt w bx m v d rs fs xs v1 v2 v3 (FF rs d d.fields.length 0) (II fs xs d d.fields.length) (MM d d.fields.length) wr) : Below w.heap.size w wr ∧ Live d w.heap.size m wr := by
  obtain ⟨R, X, h⟩ := h
  refine ⟨h.below, R, X, rs, fs, xs, v1, v2, v3, hr, hx, h.made, h.stage.cong (fun i hi => ?_) (fun i hi => ?_) (fun i hi => ?_) (fun _ _ _ h => h), h.hm⟩
  · unfold FF; rw [if_pos (by omega)]
  · unfold II; rw [if_pos (by omega)]
  · unfold MM; rw [if_pos (by omega)]

set_option maxHeartbeats 4000000 in
set_option maxRecDepth 100000 in
theorem rec_made (w : World) (v : WV) (d : WD) (hv : v.Reads w d) (l0 : d.fields.length ≤ 64) (l1 : ∀ r ∈ d.fields, r.length ≤ 64) (l3 : d.states.length ≤ 64) (e1 : d.infos.length = d.fields.length) (e2 : d.marks.length = d.fields.length) (e4 : d.frozen.length = d.states.length)
    (hF : ∀ r ∈ d.fields, ∀ n ∈ r, -1 ≤ n ∧ n < d.fields.length) (hI : ∀ n ∈ d.infos, -1 ≤ n ∧ n < d.states.length) (hS : ∀ n ∈ d.states, 0 ≤ n ∧ n < 3) :
    Calls Try.prog 40 #[v.val d] w fun e w' => ∃ m, e = .returned (.pointer (some ⟨m, 0, none⟩)) ∧ Below w.heap.size w w' ∧ Live d w.heap.size m w' := by
  refine calls_hide fun Q HQ => ?_
  have HQ' := Lib.hid HQ
  have HV := Lib.hid hv
  have HL1 := Lib.hid l1
  have HFb := Lib.hid hF
  have HIb := Lib.hid hI
  have HSb := Lib.hid hS
  have E1 := Lib.hid e1
  have E2 := Lib.hid e2
  have E4 := Lib.hid e4
  have hst := Lib.hid (MI1.start w v d)
  have hmk := fun n (hn : n ≤ 64) w => run_make_nils (P := Try.prog) (t := 82) Try.underlying82 pinfo_rec rfl n (by omega) (by omega) w
  have HMK := Lib.hid hmk
  clear HQ hv l1 hF hI hS e1 e2 e4 hmk
  go_enter Try.func40, Try.ntmps40
  go_wp2
  go_loopw [19] (fun k wr => ∃ j : Nat, j ≤ d.fields.length ∧ k = .int .i64 j ∧ MI1 w w.heap.size (w.heap.size + 1) v d j wr) (fun k _ => d.fields.length - (intOf k).toNat)
  case atStart => exact ⟨0, Nat.zero_le _, rfl, hst.out⟩
  case round =>
    clear hst
    obtain ⟨j, hj, rfl, R, X, rs, fs, v1, v2, hrl, hM⟩ := hrel
    have HM := Lib.hid hM
    clear hM
    subst hrl
    by_cases hlt : rs.length < d.fields.length
    · obtain ⟨ad, hA, A', c', hc0, _, _⟩ := row_at HV.out.h0 hlt
      have hc : wr.cell? (ad.add rs.length) = some (.slice A' d.fields[rs.length].length c') := pw_cell_below HM.out.below hc0
      have hn64 := HL1.out d.fields[rs.length] (List.getElem_mem hlt)
      have HD := Lib.hid (show d.fields.getD rs.length [] = d.fields[rs.length] by simp [List.getD_eq_getElem?_getD, List.getElem?_eq_getElem hlt])
      generalize d.fields[rs.length] = row at *
      have hmk := HMK.out row.length hn64 wr
      have hps : ((List.replicate row.length (none : Option Nat)).map pv) = List.replicate row.length (.pointer none) := by simp [hd]
      have HN := Lib.hid (new_int (rs.length : Int) (some ⟨wr.heap.size, 0, none⟩) row.length (List.replicate row.length none) R X (wr.alloc (.cells (nils row.length) 150)) (HM.out.stage.rep.below ((Below.refl wr.heap.size wr).alloc (Nat.le_refl _) _))
        (by rw [hps]; have := Row1.of_blk (rest := []) (by simpa using nils_blk wr 150 row.length); simpa using this) (fun p hp => by rw [List.eq_of_mem_replicate hp]; exact Ok.none R) (by simp; omega))
      have hlr : (List.replicate row.length (none : Option Nat)).length = row.length := by simp
      rw [hlr] at HN
      clear hc0 hps hlr
      have hbx := HM.out.box
      obtain ⟨A0, c0, A1, c1, A2, c2, A3, c3, A4, c4⟩ := v
      simp only at hA
      subst hA
      go_wp2_with fail
      refine HN.out.mono ?_
      rintro e w1 ⟨b, fb, xb, rfl, hb, hfb, hxb, hbel, hrep⟩
      simp only [World.size_alloc] at hb hfb hxb
      have hbel1 : Below wr.heap.size wr w1 := ((Below.refl wr.heap.size wr).alloc (Nat.le_refl _) _).trans (hbel.mono (by simp))
      have hfl : fs.length = rs.length := HM.out.stage.len
      have HS := ((HM.out.stage.cong (F' := fun i => List.replicate (d.fields.getD i []).length none) (I' := fun i => (fs ++ [xb])[i]?) (M' := fun _ => false) (P' := fun _ _ => True) (fun _ _ => rfl) (fun i hi => by rw [List.getElem?_append_left (by omega)]) (fun _ _ => rfl) (fun _ _ _ _ => trivial)).addRec hbel1 (by omega) (by omega) (by omega) HM.out.below.size hrep (by rw [HD.out]) (by simp [hfl]) rfl)
      have HM1 := Lib.hid (HM.out.grow hbel1 HS)
      have HFL := Lib.hid hfl
      clear hb hfb hxb hbel hrep HN hmk hc hbel1 HS HD hbx HM hfl
      have HI := Lib.hid (fun w' (h : Repint w' _ (upd X xb firstO)) => calls_swap (infon_int _ _ w' h b _ (upd_self R b ⟨[.int .i64 (rs.length : Int)], fb, List.replicate row.length none, some xb, false⟩)))
      have hk0 := HM1.out.at0

      go_wp2_with (at_builtin; refine print_append_cells w.heap.size rfl _ _ 82 150 (.pointer none) 1 8 rfl Try.underlying82 pinfo_rec rfl (by decide) (by decide) v1 rs.length _ [pv (some b)] rfl rfl rfl (by simp [Value.oneCell']) HM1.out.made.o1 HM1.out.below HM1.out.below.size (by omega) ?_)
      intro a1 w2 hown1 hb1 hg1 hat1
      have HM2 := Lib.hid (HM1.out.push1 hg1 hown1)
      obtain ⟨hc1, hf1, A1', c1', hv1⟩ := after_append HM1.out.made.blk HM1.out.made.o1 (by decide) hg1 (j := 0) rfl _ hown1
      clear hown1 hb1 hg1 hat1 hk0 HM1
      subst hv1
      go_wp2_with fail
      generalize (w2.setCell ⟨w.heap.size + 1, 0, none⟩ (.slice A1' (rs.length + 1) c1')) = wq at *
      clear hc1 hf1
      have HM3 := Lib.hid HM2.out.drew
      have hk1 := HM2.out.at1
      clear HM2
      have hk2 : (wq.alloc (Obj.cells #[pv (some xb)] 81)).cell? ⟨w.heap.size + 1, 1, none⟩ = some v2 := cell_alloc_drew _ hk1
      go_region_law (first
        | (go_simp; go_at_call 71; refine (HI.out _ HM3.out.stage.rep).mono ?_; rintro e w' ⟨rfl, rfl⟩)
        | (refine step_append_cells (W := wq.drew) w.heap.size (by rfl) _ _ 83 81 (.pointer none) 1 8 rfl Try.underlying83 pinfo_scx rfl (by decide) (by decide) v2 fs.length _ [pv (some xb)] rfl rfl rfl (by simp [Value.oneCell']) HM3.out.made.o2 HM3.out.below HM3.out.below.size (by have := HFL.out; omega) ?_
           intro a2 w3 hown2 hb2 hg2 hat2
           have HM4 := Lib.hid (HM3.out.push2 hg2 hown2 hat2)
           obtain ⟨hc2, hf2, A2', c2', hv2⟩ := after_append HM3.out.made.blk HM3.out.made.o2 (by decide) hg2 (j := 1) rfl _ hown2
           clear hown2 hb2 hg2 hat2
           subst hv2))
      all_goals
        go_wp2
        go_roundw
        case rel => exact ⟨rs.length + 1, by omega, by go_num, _, _, rs ++ [b], fs ++ [xb], _, _, by simp, HM4.out⟩
        case measure => simp [intOf]; omega
    · have hj0 : rs.length = d.fields.length := by omega
      have hs2 := Lib.hid (MI2.start hj0 HM.out)
      have hb3 : wr.cell? ⟨w.heap.size, 3, none⟩ = some (.slice v.A3 d.states.length v.c3) := HM.out.box.cell 3
      clear HM hj hj0
      go_wp2
      go_loopw [54] (fun k wr => ∃ j : Nat, j ≤ d.states.length ∧ k = .int .i64 j ∧ MI2 w w.heap.size (w.heap.size + 1) v d j wr) (fun k _ => d.states.length - (intOf k).toNat)
      case atStart => exact ⟨0, Nat.zero_le _, rfl, hs2.out⟩
      case round =>
        clear hs2
        obtain ⟨j, hj, rfl, R, X, rs, fs, xs, v1, v2, v3, hrl, hxl, hM⟩ := hrel
        have HM := Lib.hid hM
        clear hM
        subst hxl
        by_cases hlt : xs.length < d.states.length
        · obtain ⟨ad, hA, hc0⟩ := int_at HV.out.h3 hlt
          have hc : _ = some (Value.int .i64 d.states[xs.length]) := pw_cell_below HM.out.below hc0
          obtain ⟨ad2, hA2, hc2⟩ := bool_at HV.out.h4 (j := xs.length) (by have := E4.out; omega)
          have hc3 : _ = some (Value.bool (d.frozen[xs.length]'(by have := E4.out; omega))) := pw_cell_below HM.out.below hc2
          have hS := HSb.out d.states[xs.length] (List.getElem_mem hlt)
          have HD := Lib.hid (show d.states.getD xs.length 0 = d.states[xs.length] ∧ d.frozen.getD xs.length false = d.frozen[xs.length]'(by have := E4.out; omega) by constructor <;> simp [List.getD_eq_getElem?_getD, List.getElem?_eq_getElem, hlt, E4.out])
          generalize d.states[xs.length] = st at *
          generalize d.frozen[xs.length]'(by have := E4.out; omega) = fz at *
          have HN := Lib.hid (newscx_int none 0 0 [] none 0 0 [] none 0 0 [] 0 0 none none R X wr HM.out.stage.rep ⟨rfl, fun h => absurd h (by decide)⟩ ⟨rfl, fun h => absurd h (by decide)⟩ ⟨rfl, fun h => absurd h (by decide)⟩ (fun _ => ⟨rfl, rfl⟩) (fun _ => ⟨rfl, rfl⟩) (fun _ => ⟨rfl, rfl⟩) (by simp) (by simp) (by simp) (by decide) (by decide) (by decide))
          have HC2 := Lib.hid hc2
          clear hc0 hc2
          have hbx := HM.out.box
          have h4 := E4.out
          obtain ⟨A0, c0, A1, c1, A2, c2, A3, c3, A4, c4⟩ := v
          simp only at hA hA2
          subst hA hA2
          go_wp2_with fail
          refine HN.out.mono ?_
          rintro e w1 ⟨b, t1, t2, t3, he, hb, hbel, hrep, ho1, ho2, ho3⟩
          replace he : e = .returned (.pointer (some ⟨b, 0, none⟩)) := he
          subst he
          have HR := Lib.hid hrep
          have HB := Lib.hid hbel
          clear HN hrep hbel ho1 ho2 ho3
          go_wp2_with fail
          refine (set_state R _ w1 HR.out b _ (upd_self X b _) st hS.1 (by omega)).mono ?_
          rintro e w2 ⟨rfl, hf1, hr1⟩
          rw [upd_upd] at hr1
          have HF1 := Lib.hid hf1
          have HR1 := Lib.hid hr1
          clear hf1 hr1 HR
          have HB2 := Lib.hid (HB.out.trans (HF1.out.below HB.out.size (fun k hk => hk ▸ hb)))
          have HM2 := Lib.hid (HM.out.grow HB2.out (HM.out.stage.below HB2.out))
          have hbx2 : w2.cell? ⟨w.heap.size, 4, none⟩ = some (.slice (some ad2) d.frozen.length c4) := HM2.out.box.cell 4
          have hc4 := pw_cell_below HM2.out.below HC2.out
          clear hbx hc hc3 HF1
          go_wp2_with fail
          refine wp_region_still_tail 8 (by kernel_rfl) (by kernel_rfl) ?_
          simp only [List.take_succ_cons, List.take_zero, List.drop_succ_cons, List.drop_zero]
          iterate 8 still_step
          refine wpStill_nil ?_
          change wpList _ _ _ _ _ w2.drew
          have HR2 := Lib.hid (HR1.out.below (Below.refl _ _).drew)
          have HB3 := Lib.hid HB2.out.drew
          clear HM2 hbx2 hc4 HR1 HB2
          generalize w2.drew = wz at *
          go_wp2_with fail
          refine (set_frozen R _ wz HR2.out b _ (upd_self X b _) fz).mono ?_
          rintro e w3 ⟨rfl, hf1, hr1⟩
          rw [upd_upd] at hr1
          have hb4 := (HB3.out.trans (hf1.below HB3.out.size (fun k hk => hk ▸ hb)))
          have HM3 := Lib.hid (HM.out.grow hb4 (HM.out.stage.addScx hb4 hb HM.out.below.size hr1 ⟨HD.out.1.symm, HD.out.2.symm⟩))
          clear hb4 hr1 hf1 HB3 HR2 HM HC2 HD
          have hk0 := HM3.out.at2
          go_wp2_with (at_builtin; refine print_append_cells w.heap.size rfl _ _ 83 81 (.pointer none) 1 8 rfl Try.underlying83 pinfo_scx rfl (by decide) (by decide) v3 xs.length _ [pv (some b)] rfl rfl rfl (by simp [Value.oneCell']) HM3.out.made.o3 HM3.out.below HM3.out.below.size (by omega) ?_)
          intro a1 w4 hown1 hb1 hg1 hat1
          have HM4 := Lib.hid (HM3.out.push3 hg1 hown1 hat1)
          obtain ⟨hc1, hf1, A1', c1', hv1⟩ := after_append HM3.out.made.blk HM3.out.made.o3 (by decide) hg1 (j := 2) rfl _ hown1
          clear hown1 hb1 hg1 hat1 hk0 HM3
          subst hv1
          go_wp2
          go_roundw
          case rel => exact ⟨xs.length + 1, by omega, by go_num, _, _, rs, fs, xs ++ [b], _, _, _, hrl, by simp, HM4.out⟩
          case measure => simp [intOf]; omega
        · have HJ0 := Lib.hid (show xs.length = d.states.length by omega)
          obtain ⟨A1, k1, hv1, _⟩ := owns_slice HM.out.made.o1
          subst hv1
          have hk0 := HM.out.at0
          have hs3 := Lib.hid (show MAt w w.heap.size (w.heap.size + 1) v d rs fs xs _ v2 v3 (FF rs d 0 0) (II fs xs d 0) (MM d 0) wr from ⟨R, X, HM.out.cong (FF_zero rs d) (fun _ => rfl) (fun _ => rfl)⟩)
          clear HM hj
          go_wp2
          go_loopw [90] (fun k wr => ∃ j : Nat, j ≤ d.fields.length ∧ k = .int .i64 j ∧ MAt w w.heap.size (w.heap.size + 1) v d rs fs xs (.slice A1 rs.length k1) v2 v3 (FF rs d j 0) (II fs xs d j) (MM d j) wr) (fun k _ => d.fields.length - (intOf k).toNat)
          case atStart => exact ⟨0, Nat.zero_le _, rfl, hs3.out⟩
          case round =>
            clear hs3 hk0 hb3
            obtain ⟨j, hj, rfl, R, X, hM⟩ := hrel
            have HM := Lib.hid hM
            clear hM
            by_cases hlt3 : j < d.fields.length
            · obtain ⟨b0, k0, hv, hcell⟩ := owns_at HM.out.made.o1 (j := j) (by omega)
              have hA1 := (Value.slice.inj hv).1
              subst hA1
              obtain ⟨b, hbj⟩ : ∃ b, rs[j]? = some b := ⟨rs[j], List.getElem?_eq_getElem (by omega)⟩
              rw [hbj] at hcell
              have hcell1 : _ = some (Value.pointer (some ⟨b, 0, none⟩)) := hcell
              obtain ⟨ad, hA, A', c', hc0, _, hrow⟩ := row_at HV.out.h0 hlt3
              have hc : _ = some (Value.slice A' d.fields[j].length c') := pw_cell_below HM.out.below hc0
              have hn64 := HL1.out d.fields[j] (List.getElem_mem hlt3)
              have HFr := Lib.hid (HFb.out d.fields[j] (List.getElem_mem hlt3))
              have HD := Lib.hid (show d.fields.getD j [] = d.fields[j] by simp [List.getD_eq_getElem?_getD, List.getElem?_eq_getElem hlt3])
              have HBJ := Lib.hid hbj
              generalize d.fields[j] = row at *
              have HRow := Lib.hid hrow
              have hbx : wr.cell? ⟨w.heap.size, 0, none⟩ = some (.slice v.A0 d.fields.length v.c0) := HM.out.box.cell 0
              have hs4 := Lib.hid (show MAt w w.heap.size (w.heap.size + 1) v d rs fs xs _ v2 v3 (FF rs d j 0) (II fs xs d j) (MM d j) wr from ⟨R, X, HM.out⟩)
              obtain ⟨A0, c0, A1, c1, A2, c2, A3, c3, A4, c4⟩ := v
              simp only at hA
              subst hA
              clear hv hcell hrow hc0 hbj HM
              go_wp2
              go_loopw [101] (fun k wr => ∃ q : Nat, q ≤ row.length ∧ k = .int .i64 q ∧ MAt w w.heap.size (w.heap.size + 1) ⟨some ad, c0, A1, c1, A2, c2, A3, c3, A4, c4⟩ d rs fs xs (.slice (some ⟨b0, 0, none⟩) rs.length k1) v2 v3 (FF rs d j q) (II fs xs d j) (MM d j) wr) (fun k _ => row.length - (intOf k).toNat)
              case atStart => exact ⟨0, Nat.zero_le _, rfl, hs4.out⟩
              case round =>
                clear hs4 hcell1 hc hbx
                obtain ⟨q, hq, rfl, R, X, hM⟩ := hrel
                have HM := Lib.hid hM
                clear hM
                by_cases hlt4 : q < row.length
                · obtain ⟨ad2, hA2, hc2⟩ := int_at HRow.out hlt4
                  subst hA2
                  have hc3 : _ = some (Value.int .i64 row[q]) := pw_cell_below HM.out.below hc2
                  obtain ⟨fb, hfb, hfbl⟩ := HM.out.stage.r j b HBJ.out
                  have hfl : (FF rs d j q j).length = row.length := by rw [FF_len _ _ _ _ (by rw [HD.out]; omega), HD.out]
                  have hfc : _ = some (Value.slice (some ⟨fb, 0, none⟩) row.length row.length) := (HM.out.stage.rep.cell hfb 0).trans (by rw [← hfl]; rfl)
                  have hfc1 : wr.cell? ⟨b, 1, none⟩ = some (Value.slice (some ⟨fb, 0, none⟩) row.length row.length) := hfc
                  have hfn := HFr.out row[q] (List.getElem_mem hlt4)
                  have HLR := Lib.hid (calls_swap (live_record wr.drew w.heap.size (w.heap.size + 1) rs fs xs _ _ _ HM.out.drew.made row[q] hfn.1 (by omega)))
                  have HFL := Lib.hid (show q < (FF rs d j q j).length by omega)
                  have HFB := Lib.hid hfb
                  have HST := Lib.hid (FF_step rs d j q · (by rw [HD.out]; omega))
                  have HRQ := Lib.hid (show rp rs ((d.fields.getD j [])[q]'(by rw [HD.out]; omega)) = rp rs row[q] by simp only [HD.out])
                  generalize row[q] = n at *
                  clear hc2 hfc hfl hfb
                  go_wp2
                  refine wp_region_still_tail 9 (by kernel_rfl) (by kernel_rfl) ?_
                  simp only [List.take_succ_cons, List.take_zero, List.drop_succ_cons, List.drop_zero]
                  iterate 8 still_step
                  still_call (HLR.out)
                  refine wpStill_nil ?_
                  change wpList _ _ _ _ _ wr.drew
                  have HM1 := Lib.hid HM.out.drew
                  clear hc3 hfc1 HM HLR
                  generalize wr.drew = wz at *
                  go_wp2_with fail
                  refine (set_field R X wz HM1.out.stage.rep b _ HFB.out q HFL.out (rp rs n) (HM1.out.stage.okR n)).mono ?_
                  rintro e w1 ⟨rfl, hf1, hr1⟩
                  have HM2 := Lib.hid ((HM1.out.turn HBJ.out HFB.out (.inr rfl) hf1 hr1).cong (F' := FF rs d j (q + 1)) (I' := II fs xs d j) (M' := MM d j) (fun i => by rw [← HRQ.out]; exact HST.out i) (fun i => by split <;> simp_all) (fun i => by split <;> simp_all))
                  clear hf1 hr1 HM1 HFB HFL HST HRQ
                  go_wp2
                  go_roundw
                  case rel => exact ⟨q + 1, by omega, by go_num, _, _, HM2.out⟩
                  case measure => simp [intOf]; omega
                · have hq0 : q = row.length := by omega
                  subst hq0
                  clear hlt4 hq
                  have e1 := E1.out
                  have e2 := E2.out
                  obtain ⟨ad1, hA1, hc2⟩ := int_at HV.out.h1 (j := j) (by omega)
                  simp only at hA1
                  subst hA1
                  obtain ⟨ad2, hA2, hc4⟩ := bool_at HV.out.h2 (j := j) (by omega)
                  simp only at hA2
                  subst hA2
                  have hc3 : _ = some (Value.int .i64 (d.infos[j]'(by omega))) := pw_cell_below HM.out.below hc2
                  have hin := HIb.out (d.infos[j]'(by omega)) (List.getElem_mem _)
                  have HDI := Lib.hid (show d.infos.getD j 0 = d.infos[j]'(by omega) ∧ d.marks.getD j false = d.marks[j]'(by omega) by constructor <;> simp [List.getD_eq_getElem?_getD, List.getElem?_eq_getElem, hlt3, e1, e2])
                  have HC4 := Lib.hid hc4
                  generalize d.infos[j]'(by omega) = n at *
                  generalize d.marks[j]'(by omega) = mk at *
                  obtain ⟨fb, hfb, hfbl⟩ := HM.out.stage.r j b HBJ.out
                  have HFB := Lib.hid hfb
                  have hbx : wr.cell? ⟨w.heap.size, 1, none⟩ = some (.slice (some ad1) d.infos.length c1) := HM.out.box.cell 1
                  have hfl : fs.length = rs.length := HM.out.stage.len
                  have HLR := Lib.hid (calls_swap (live_info wr.drew w.heap.size (w.heap.size + 1) rs fs xs _ _ _ HM.out.drew.made j n (by omega) (by omega) hin.1 (by have := HJ0.out; omega)))
                  clear hc2 hc4 hfb
                  go_wp2
                  refine wp_region_still_tail 11 (by kernel_rfl) (by kernel_rfl) ?_
                  simp only [List.take_succ_cons, List.take_zero, List.drop_succ_cons, List.drop_zero]
                  iterate 10 still_step
                  still_call (HLR.out)
                  refine wpStill_nil ?_
                  change wpList _ _ _ _ _ wr.drew
                  have HM1 := Lib.hid HM.out.drew
                  clear hc3 hbx HM HLR
                  generalize wr.drew = wz at *
                  go_wp2_with fail
                  refine (set_info R X wz HM1.out.stage.rep b _ HFB.out (ip fs xs j n) (by unfold ip; split; exact HM1.out.stage.okF _; exact HM1.out.stage.okX _)).mono ?_
                  rintro e w1 ⟨rfl, hf1, hr1⟩
                  have HM2 := Lib.hid (HM1.out.turn HBJ.out HFB.out (.inl rfl) hf1 hr1)
                  have HFB2 := Lib.hid (upd_self R b (⟨[.int .i64 (j : Int)], fb, FF rs d j row.length j, ip fs xs j n, MM d j j⟩ : RecO))
                  clear hf1 hr1 HM1 HFB
                  have hbx : w1.cell? ⟨w.heap.size, 2, none⟩ = some (.slice (some ad2) d.marks.length c2) := HM2.out.box.cell 2
                  have hc4 : _ = some (Value.bool mk) := pw_cell_below HM2.out.below HC4.out
                  go_wp2
                  refine wp_region_still_tail 8 (by kernel_rfl) (by kernel_rfl) ?_
                  simp only [List.take_succ_cons, List.take_zero, List.drop_succ_cons, List.drop_zero]
                  iterate 8 still_step
                  refine wpStill_nil ?_
                  change wpList _ _ _ _ _ w1.drew
                  have HM3 := Lib.hid HM2.out.drew
                  clear hc4 hbx HM2 HC4
                  generalize w1.drew = wz at *
                  go_wp2_with fail
                  refine (set_mark _ X wz HM3.out.stage.rep b _ HFB2.out mk).mono ?_
                  rintro e w2 ⟨rfl, hf1, hr1⟩
                  have HM4 := Lib.hid ((HM3.out.turn HBJ.out (by simpa using HFB2.out) (.inl rfl) hf1 hr1).cong (F' := FF rs d (j + 1) 0) (I' := II fs xs d (j + 1)) (M' := MM d (j + 1)) (fun i => by rw [← FF_next, HD.out]; split <;> simp_all)
                    (fun i => by rw [← II_next fs xs d j i, HDI.out.1]; by_cases e : i = j <;> simp [e]) (fun i => by rw [← MM_next d j i, HDI.out.2]; by_cases e : i = j <;> simp [e]))
                  clear hf1 hr1 HM3 HFB2
                  go_wp2
                  go_roundw
                  case rel => exact ⟨j + 1, by omega, by go_num, _, _, HM4.out⟩
                  case measure => simp [intOf]; omega
            · have hj3 : j = d.fields.length := by omega
              subst hj3
              have HL := Lib.hid (MAt.live hrl HJ0.out ⟨R, X, HM.out⟩)
              clear HM hlt3 hj
              go_wp2
              exact HQ'.out _ _ ⟨_, rfl, HL.out⟩
end Go.Proofs.Ytphhdmopfmelbaa
