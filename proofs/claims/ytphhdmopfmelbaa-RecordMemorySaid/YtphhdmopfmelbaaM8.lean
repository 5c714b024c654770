/- Joined texts: Seen MemP Drop MemS. -/
import Derived.Test.YtphhdmopfmelbaaM4
import Derived.Test.YtphhdmopfmelbaaM5
import Derived.Test.YtphhdmopfmelbaaM7

/- larchlaw12: what a Play has left, refused or not, in one form; a list of such worlds. No walk. -/
namespace Go.Proofs.Ytphhdmopfmelbaa
open Go.RowKit Go.Proofs.YtphhdmopfmelbaaW.PrintWords
set_option linter.unusedVariables false
set_option linter.unusedSimpArgs false

def seenA (d : WD) (l : List ActD) : List Int := if playE d l = 0 then (runD d l).1 else []
def seenK (d : WD) (l : List ActD) : List Int := if playE d l = 0 then kinds l else []
def seenW (d : WD) (l : List ActD) : WD := if playE d l = 0 then (runD d l).2 else ⟨[], [], [], [], []⟩
structure SeenAt (B : Nat) (la lk : List Int) (D : WD) (ov fv iv mv sv zv kv : Value) (bs : List Value) (w : World) : Prop where
  out : w.ownsRow B TII 1 ov la.length (la.map (Value.int .i64))
  wld : OutW B D fv iv mv sv zv bs w
  kin : w.ownsRow B TII 1 kv lk.length (lk.map (Value.int .i64))
  d1 : ∀ k, ov.ownBlock = some k → ¬ OutFoot fv iv mv sv zv bs k
  d2 : ∀ k, kv.ownBlock = some k → ¬ OutFoot fv iv mv sv zv bs k
  d3 : ∀ k, ov.ownBlock = some k → kv.ownBlock ≠ some k
def SeenV (B : Nat) (la lk : List Int) (D : WD) (er : Int) (v : Value) (w : World) : Prop := ∃ ov kv fv iv mv sv zv bs, v = .tuple #[ov, .agg #[fv, iv, mv, sv, zv], kv, .int .i64 er] ∧ SeenAt B la lk D ov fv iv mv sv zv kv bs w
section
variable {B B' : Nat} {la lk : List Int} {D : WD} {er : Int} {v ov fv iv mv sv zv kv : Value} {bs : List Value} {w w' w0 : World}
theorem SeenAt.fr (h : SeenAt B la lk D ov fv iv mv sv zv kv bs w) {S : Nat → Prop} (hf : Fr w w' S) (hS : ∀ k, S k → ∃ T ys, Blk w k T ys ∧ T ≠ TRI ∧ T ≠ TII ∧ T ≠ TBB) : SeenAt B la lk D ov fv iv mv sv zv kv bs w' := by
  have key : ∀ {n : Nat} {v : Value} {us : List Value}, w.ownsRow B TII 1 v n us → w'.ownsRow B TII 1 v n us := fun ho => owns_fr ho hf (fun k hk hs => by
    obtain ⟨c, hc⟩ := owns_typed ho k hk
    obtain ⟨T, ys, hb, _, h2, _⟩ := hS k hs
    exact h2 (hb.inj hc).1)
  exact ⟨key h.out, h.wld.other hf hS, key h.kin, h.d1, h.d2, h.d3⟩
theorem SeenAt.below (h : SeenAt B la lk D ov fv iv mv sv zv kv bs w) (hb : Below w.heap.size w w') : SeenAt B la lk D ov fv iv mv sv zv kv bs w' := h.fr (S := fun _ => False) (Fr.of_below0 hb) (fun _ h => h.elim)
theorem SeenAt.lower (h : SeenAt B' la lk D ov fv iv mv sv zv kv bs w) (hB : B ≤ B') : SeenAt B la lk D ov fv iv mv sv zv kv bs w :=
  ⟨own_weaken h.out hB, h.wld.lower hB, own_weaken h.kin hB, h.d1, h.d2, h.d3⟩
theorem SeenV.below (h : SeenV B la lk D er v w) (hb : Below w.heap.size w w') : SeenV B la lk D er v w' := by
  obtain ⟨ov, kv, fv, iv, mv, sv, zv, bs, e, ho⟩ := h
  exact ⟨ov, kv, fv, iv, mv, sv, zv, bs, e, ho.below hb⟩
theorem SeenV.lower (h : SeenV B' la lk D er v w) (hB : B ≤ B') : SeenV B la lk D er v w := by
  obtain ⟨ov, kv, fv, iv, mv, sv, zv, bs, e, ho⟩ := h
  exact ⟨ov, kv, fv, iv, mv, sv, zv, bs, e, ho.lower hB⟩
theorem SeenV.store (h : SeenV B la lk D er v w) {g T : Nat} {ys : List Value} (hg : Blk w g T ys) (h1 : T ≠ TRI) (h2 : T ≠ TII) (h3 : T ≠ TBB) (hf : Fr w w' (fun k => k = g)) : SeenV B la lk D er v w' := by
  obtain ⟨ov, kv, fv, iv, mv, sv, zv, bs, e, ho⟩ := h
  exact ⟨ov, kv, fv, iv, mv, sv, zv, bs, e, ho.fr hf (fun k hk => ⟨T, ys, hk ▸ hg, h1, h2, h3⟩)⟩
theorem PlayPost.seen {d : WD} {l : List ActD} {e : Ending} (h : PlayPost w0 d l e w') : Below w0.heap.size w0 w' ∧ ∃ v, e = .returned v ∧ SeenV w0.heap.size (seenA d l) (seenK d l) (seenW d l) (playE d l) v w' := by
  refine ⟨h.1, ?_⟩
  rcases h.2 with ⟨hp, rfl⟩ | ⟨hp, ov, fv, iv, mv, sv, zv, kv, bs, rfl, ho⟩
  · unfold seenA seenK seenW
    rw [if_neg hp, if_neg hp, if_neg hp]
    exact ⟨_, rfl, nilV, nilV, nilV, nilV, nilV, nilV, nilV, [], rfl, World.ownsRow_nil _ _ _ _, OutW.empty _ _, World.ownsRow_nil _ _ _ _, fun k hk => by simp [Value.ownBlock] at hk, fun k hk => by simp [Value.ownBlock] at hk, fun k hk => by simp [Value.ownBlock] at hk⟩
  · unfold seenA seenK seenW
    rw [if_pos hp, if_pos hp, if_pos hp, hp]
    have h1 := ho.out
    have h2 := ho.kin
    have hl := runD_length d l
    have hk : (kinds l).length = l.length := by simp [kinds]
    rw [← hl] at h1
    rw [← hk] at h2
    exact ⟨_, rfl, ov, kv, fv, iv, mv, sv, zv, bs, rfl, h1, ho.wld, h2, ho.d1, ho.d2, ho.d3⟩
end
/-- A world of one's own: its five slices, its rows of fields. -/
structure Ent where
  fv : Value
  iv : Value
  mv : Value
  sv : Value
  zv : Value
  bs : List Value
abbrev Ent.cells (e : Ent) : List Value := [e.fv, e.iv, e.mv, e.sv, e.zv]
abbrev Ent.foot (e : Ent) : Nat → Prop := OutFoot e.fv e.iv e.mv e.sv e.zv e.bs
abbrev Ent.at_ (e : Ent) (B : Nat) (D : WD) (w : World) : Prop := OutW B D e.fv e.iv e.mv e.sv e.zv e.bs w
/-- A list of such worlds, each apart from the others. -/
structure WL (B : Nat) (Ds : List WD) (es : List Ent) (v : Value) (w : World) : Prop where
  len : es.length = Ds.length
  row : w.ownsRow B TWD 5 v es.length (es.flatMap Ent.cells)
  out : ∀ (k : Nat) (D : WD) (e : Ent), Ds[k]? = some D → es[k]? = some e → e.at_ B D w
  dis : ∀ (i j : Nat) (e e' : Ent), i ≠ j → es[i]? = some e → es[j]? = some e' → ∀ k, e.foot k → ¬ e'.foot k
section
variable {B : Nat} {Ds : List WD} {es : List Ent} {v v' : Value} {w w1 : World}
theorem owns5_typed {w : World} {e n : Nat} {v : Value} {us : List Value} (h : w.ownsRow B e 5 v n us) (k : Nat) (hk : v.ownBlock = some k) : ∃ ys, Blk w k e ys := by
  rcases h.2 with ⟨rfl, _⟩ | ⟨g, cap, cur, rfl, _, hg, _⟩
  · simp [Value.ownBlock] at hk
  · simp only [Value.ownBlock, Option.some.injEq] at hk
    subst hk
    exact ⟨cur.toList, by simpa [Blk] using hg⟩
theorem owns5_fr {w w' : World} {e n : Nat} {v : Value} {us : List Value} (h : w.ownsRow B e 5 v n us) {S : Nat → Prop} (hf : Fr w w' S) (hn : ∀ k, v.ownBlock = some k → ¬ S k) : w'.ownsRow B e 5 v n us := by
  rcases h.2 with h0 | ⟨g, cap, cur, rfl, h1, hg, h2⟩
  · exact ⟨h.1, .inl h0⟩
  · have hlt : g < w.heap.size := (Array.getElem?_eq_some_iff.1 hg).1
    exact ⟨h.1, .inr ⟨g, cap, cur, rfl, h1, by rw [hf.block g hlt (hn g rfl)]; exact hg, h2⟩⟩
theorem WL.nil (B : Nat) (w : World) : WL B [] [] (.slice none 0 0) w := ⟨rfl, World.ownsRow_nil _ _ _ _, fun k D e h => by simp at h, fun i j e e' _ h => by simp at h⟩
theorem WL.fr (h : WL B Ds es v w) {S : Nat → Prop} (hf : Fr w w1 S) (hS : ∀ k, S k → (∀ e ∈ es, ¬ e.foot k) ∧ v.ownBlock ≠ some k) : WL B Ds es v w1 :=
  ⟨h.len, owns5_fr h.row hf (fun k hk hs => (hS k hs).2 hk), fun k D e h1 h2 => (h.out k D e h1 h2).fr hf (fun j hj hs => (hS j hs).1 e (List.mem_of_getElem? h2) hj), h.dis⟩
theorem WL.below (h : WL B Ds es v w) (hb : Below w.heap.size w w1) : WL B Ds es v w1 := h.fr (S := fun _ => False) (Fr.of_below0 hb) (fun _ k => k.elim)
/-- One of them has turned. -/
theorem WL.set (h : WL B Ds es v w) {k : Nat} {e : Ent} {D D' : WD} (he : es[k]? = some e) (hD : Ds[k]? = some D) (ho : e.at_ B D' w1) (hf : Fr w w1 e.foot) : WL B (Ds.set k D') es v w1 := by
  have hk := (List.getElem?_eq_some_iff.1 hD).1
  refine ⟨by rw [List.length_set]; exact h.len, owns5_fr h.row hf (fun b hb hs => ?_), fun j Dj ej h1 h2 => ?_, h.dis⟩
  · obtain ⟨ys, hy⟩ := owns5_typed h.row b hb
    obtain ⟨_, _, T, zs, hz, hT⟩ := (h.out k D e hD he).foot hs
    have := (hy.inj hz).1
    rcases hT with rfl | rfl | rfl <;> exact absurd this (by decide)
  · rcases Nat.decEq k j with hne | rfl
    · rw [List.getElem?_set_ne hne] at h1
      exact (h.out j Dj ej h1 h2).fr hf (fun b hb hs => h.dis k j e ej hne he h2 b hs hb)
    · rw [List.getElem?_set_self hk, Option.some.injEq] at h1
      rw [he, Option.some.injEq] at h2
      subst h1 h2
      exact ho
/-- One more. -/
theorem WL.push (h : WL B Ds es v w) {e : Ent} {D : WD} {N : Nat} (ho : e.at_ B D w) (hnew : ∀ k, e.foot k → N ≤ k) (hold : ∀ e' ∈ es, ∀ k, e'.foot k → k < N) (hg : w.grownBy w1 v.ownBlock)
    (hown : w1.ownsRow B TWD 5 v' (es.length + 1) (es.flatMap Ent.cells ++ e.cells)) : WL B (Ds ++ [D]) (es ++ [e]) v' w1 := by
  have hf := Fr.of_grown hg
  have hT : ∀ k, some k = v.ownBlock → ∃ ys, Blk w k TWD ys := fun k hk => owns5_typed h.row k hk.symm
  have keep : ∀ {e : Ent} {D : WD}, e.at_ B D w → e.at_ B D w1 := fun ho => ho.fr hf (fun k hk hs => by
    obtain ⟨_, _, T, zs, hz, hT2⟩ := ho.foot hk
    obtain ⟨ys, hy⟩ := hT k hs
    have := (hy.inj hz).1
    rcases hT2 with rfl | rfl | rfl <;> exact absurd this (by decide))
  have hat : ∀ {α : Type} (l : List α) (x y : α) (j : Nat), (l ++ [x])[j]? = some y → l[j]? = some y ∨ (j = l.length ∧ y = x) := fun l x y j hj => by
    rcases Nat.lt_or_ge j l.length with h1 | h1
    · rw [List.getElem?_append_left h1] at hj; exact .inl hj
    · rw [List.getElem?_append_right h1] at hj
      have h0 : j - l.length = 0 := by
        have := (List.getElem?_eq_some_iff.1 hj).1
        simpa using this
      rw [h0] at hj
      exact .inr ⟨by omega, by simpa using hj.symm⟩
  refine ⟨by simp [h.len], by simpa [List.flatMap_append] using hown, fun j Dj ej h1 h2 => ?_, fun i j ei ej hne h1 h2 k hk1 hk2 => ?_⟩
  · rcases hat _ _ _ _ h1 with g1 | ⟨g1, rfl⟩
    · rcases hat _ _ _ _ h2 with g2 | ⟨g2, rfl⟩
      · exact keep (h.out j Dj ej g1 g2)
      · have := (List.getElem?_eq_some_iff.1 g1).1; have := h.len; omega
    · rcases hat _ _ _ _ h2 with g2 | ⟨g2, rfl⟩
      · have := (List.getElem?_eq_some_iff.1 g2).1; have := h.len; omega
      · exact keep ho
  · rcases hat _ _ _ _ h1 with g1 | ⟨g1, rfl⟩
    · rcases hat _ _ _ _ h2 with g2 | ⟨g2, rfl⟩
      · exact h.dis i j ei ej hne g1 g2 k hk1 hk2
      · have a := hold ei (List.mem_of_getElem? g1) k hk1
        have b := hnew k hk2; omega
    · rcases hat _ _ _ _ h2 with g2 | ⟨g2, rfl⟩
      · have a := hold ej (List.mem_of_getElem? g2) k hk2
        have b := hnew k hk1; omega
      · omega
theorem WL.lt (h : WL B Ds es v w) : (∀ e ∈ es, ∀ k, e.foot k → k < w.heap.size) ∧ ∀ k, v.ownBlock = some k → k < w.heap.size := by
  refine ⟨fun e he k hk => ?_, fun k hk => ?_⟩
  · obtain ⟨i, hi⟩ := List.getElem?_of_mem he
    have hl := (List.getElem?_eq_some_iff.1 hi).1
    have hlen := h.len
    exact ((h.out i _ e (List.getElem?_eq_getElem (by omega)) hi).foot hk).2.1
  · obtain ⟨ys, hy⟩ := owns5_typed h.row k hk
    exact hy.lt
theorem winfo : (Try.prog.info? TWD).map (fun i => (i.zero, i.size, i.bytes)) = some (some (.agg #[.slice none 0 0, .slice none 0 0, .slice none 0 0, .slice none 0 0, .slice none 0 0]), 5, 120) := by kernel_rfl
theorem ent_flat : ∀ (es : List Ent) (k i : Nat) (e : Ent) (u : Value), es[k]? = some e → e.cells[i]? = some u → (es.flatMap Ent.cells)[k * 5 + i]? = some u := fun es => by
  induction es with
  | nil => intro k i e u h; simp at h
  | cons x es ih =>
    intro k i e u h hu
    rw [List.flatMap_cons]
    cases k with
    | zero =>
      simp only [List.getElem?_cons_zero, Option.some.injEq] at h
      subst h
      have hi := (List.getElem?_eq_some_iff.1 hu).1
      rw [Nat.zero_mul, Nat.zero_add, List.getElem?_append_left hi]
      exact hu
    | succ k =>
      simp only [List.getElem?_cons_succ] at h
      have := ih k i e u h hu
      rw [List.getElem?_append_right (by simp; omega)]
      rw [show (k + 1) * 5 + i - x.cells.length = k * 5 + i by simp; omega]
      exact this
/-- Where one of them lies. -/
theorem WL.ent (h : WL B Ds es v w) {k : Nat} {e : Ent} (hk : es[k]? = some e) : ∃ (g c : Nat), v = .slice (some ⟨g, 0, none⟩) es.length c ∧ es.length ≤ c ∧ ∀ (i : Nat) (u : Value), e.cells[i]? = some u → w.cell? ⟨g, k * 5 + i, none⟩ = some u := by
  have hl := (List.getElem?_eq_some_iff.1 hk).1
  have hr := h.row
  rcases hr.2 with ⟨_, h0⟩ | ⟨g, cap, cur, rfl, _, _, hc, _⟩
  · omega
  · refine ⟨g, cap, rfl, hc, fun i u hu => ?_⟩
    have hi : i < 5 := (List.getElem?_eq_some_iff.1 hu).1
    rw [World.ownsRow.cellAt hr (k * 5 + i) (by omega)]
    exact ent_flat es k i e u hk hu
end
end Go.Proofs.Ytphhdmopfmelbaa

/- larchlaw12, RecordMemory: what has been written into a world so far. No walk. -/
namespace Go.Proofs.Ytphhdmopfmelbaa
open Go.RowKit Go.Proofs.YtphhdmopfmelbaaW.PrintWords
set_option linter.unusedVariables false
set_option linter.unusedSimpArgs false

/-- World q, D0 at first: its fields below (i, j), infos below a, marks below b, states below s, frozen below t bear the numbers of the statement. -/
structure MW (q : Nat) (D0 D : WD) (i j a b s t : Nat) : Prop where
  l0 : D.fields.length = D0.fields.length
  lr : ∀ i, (D.fields.getD i []).length = (D0.fields.getD i []).length
  l1 : D.infos.length = D0.infos.length
  l2 : D.marks.length = D0.marks.length
  l3 : D.states.length = D0.states.length
  l4 : D.frozen.length = D0.frozen.length
  f : ∀ i' j' : Nat, (i' < i ∨ (i' = i ∧ j' < j)) → i' < D0.fields.length → j' < (D0.fields.getD i' []).length → (D.fields.getD i' []).getD j' 0 = 1000 * q + 100 * i' + j'
  nI : ∀ k : Nat, k < a → k < D0.infos.length → D.infos.getD k 0 = 5000 + 1000 * q + k
  nM : ∀ k : Nat, k < b → k < D0.marks.length → D.marks.getD k false = decide (q = 0)
  nS : ∀ k : Nat, k < s → k < D0.states.length → D.states.getD k 0 = 9000 + 1000 * q + k
  nZ : ∀ k : Nat, k < t → k < D0.frozen.length → D.frozen.getD k false = decide (q = 0)
section
variable {q i j a b s t : Nat} {D0 D : WD}
theorem MW.zero (q : Nat) (D : WD) : MW q D D 0 0 0 0 0 0 :=
  ⟨rfl, fun _ => rfl, rfl, rfl, rfl, rfl, fun i' j' h => by omega, fun k h => by omega, fun k h => by omega, fun k h => by omega, fun k h => by omega⟩
theorem MW.setF (h : MW q D0 D i j a b s t) (hi : i < D0.fields.length) (hj : j < (D0.fields.getD i []).length) : MW q D0 { D with fields := D.fields.set i ((D.fields.getD i []).set j (1000 * q + 100 * i + j)) } i (j + 1) a b s t := by
  have hi' : i < D.fields.length := by rw [h.l0]; exact hi
  have hj' : j < (D.fields.getD i []).length := by rw [h.lr]; exact hj
  refine ⟨by rw [← h.l0]; exact List.length_set, fun k => ?_, h.l1, h.l2, h.l3, h.l4, fun i' j' hlt h1 h2 => ?_, h.nI, h.nM, h.nS, h.nZ⟩
  · show ((D.fields.set i _).getD k []).length = _
    rw [getD_set _ _ _ _ _ hi']
    split
    · rename_i e; subst e; rw [List.length_set]; exact h.lr k
    · exact h.lr k
  · show ((D.fields.set i _).getD i' []).getD j' 0 = _
    rw [getD_set _ _ _ _ _ hi']
    split
    · rename_i e
      subst e
      rw [getD_set _ _ _ _ _ hj']
      split
      · rename_i e; subst e; rfl
      · exact h.f i' j' (by omega) h1 h2
    · exact h.f i' j' (by omega) h1 h2
theorem MW.row (h : MW q D0 D i j a b s t) (hj : (D0.fields.getD i []).length ≤ j) : MW q D0 D (i + 1) 0 a b s t :=
  ⟨h.l0, h.lr, h.l1, h.l2, h.l3, h.l4, fun i' j' hlt h1 h2 => by
    rcases Nat.lt_or_ge i' i with h3 | h3
    · exact h.f i' j' (.inl h3) h1 h2
    · have : i' = i := by omega
      subst this
      exact h.f i' j' (.inr ⟨rfl, by omega⟩) h1 h2, h.nI, h.nM, h.nS, h.nZ⟩
theorem MW.setI (h : MW q D0 D i j a b s t) (ha : a < D0.infos.length) : MW q D0 { D with infos := D.infos.set a (5000 + 1000 * q + a) } i j (a + 1) b s t := by
  have ha' : a < D.infos.length := by rw [h.l1]; exact ha
  refine ⟨h.l0, h.lr, by rw [← h.l1]; exact List.length_set, h.l2, h.l3, h.l4, h.f, fun k hk h1 => ?_, h.nM, h.nS, h.nZ⟩
  show (D.infos.set a _).getD k 0 = _
  rw [getD_set _ _ _ _ _ ha']
  split
  · rename_i e; subst e; rfl
  · exact h.nI k (by omega) h1
theorem MW.setM (h : MW q D0 D i j a b s t) (hb : b < D0.marks.length) : MW q D0 { D with marks := D.marks.set b (decide (q = 0)) } i j a (b + 1) s t := by
  have hb' : b < D.marks.length := by rw [h.l2]; exact hb
  refine ⟨h.l0, h.lr, h.l1, by rw [← h.l2]; exact List.length_set, h.l3, h.l4, h.f, h.nI, fun k hk h1 => ?_, h.nS, h.nZ⟩
  show (D.marks.set b _).getD k false = _
  rw [getD_set _ _ _ _ _ hb']
  split
  · rfl
  · exact h.nM k (by omega) h1
theorem MW.setS (h : MW q D0 D i j a b s t) (hs : s < D0.states.length) : MW q D0 { D with states := D.states.set s (9000 + 1000 * q + s) } i j a b (s + 1) t := by
  have hs' : s < D.states.length := by rw [h.l3]; exact hs
  refine ⟨h.l0, h.lr, h.l1, h.l2, by rw [← h.l3]; exact List.length_set, h.l4, h.f, h.nI, h.nM, fun k hk h1 => ?_, h.nZ⟩
  show (D.states.set s _).getD k 0 = _
  rw [getD_set _ _ _ _ _ hs']
  split
  · rename_i e; subst e; rfl
  · exact h.nS k (by omega) h1
theorem MW.setZ (h : MW q D0 D i j a b s t) (ht : t < D0.frozen.length) : MW q D0 { D with frozen := D.frozen.set t (decide (q = 0)) } i j a b s (t + 1) := by
  have ht' : t < D.frozen.length := by rw [h.l4]; exact ht
  refine ⟨h.l0, h.lr, h.l1, h.l2, h.l3, by rw [← h.l4]; exact List.length_set, h.f, h.nI, h.nM, h.nS, fun k hk h1 => ?_⟩
  show (D.frozen.set t _).getD k false = _
  rw [getD_set _ _ _ _ _ ht']
  split
  · rfl
  · exact h.nZ k (by omega) h1
end
end Go.Proofs.Ytphhdmopfmelbaa

/- append of one cell to a row of one's own whose answer is dropped: the row stays. No walk. -/
namespace Go.Proofs.Ytphhdmopfmelbaa
open Go.RowKit Go.Proofs.YtphhdmopfmelbaaW.PrintWords
set_option linter.unusedVariables false
set_option linter.unusedSimpArgs false

theorem run_append_kept {P : Program} (w : World) (base : Nat) (t ty e : TypeId) (i : TypeInfo) (z : Value) (ht : P.underlying t = some (.slice e)) (hi : P.info? e = some i) (hz : i.zero = some z)
    (hsize : i.size = 1) (hzs : z.cells.size = 1) (v : Value) (n : Nat) (xs : List Value) (hown : w.ownsRow base e 1 v n xs)
    (b c : Nat) (x : Value) (hx : w.cell? ⟨b, 0, none⟩ = some x) (h1 : x.oneCell' = true) (h63 : n + 1 ≤ maxLen) (hbytes : (n + 1) * i.bytes ≤ 140737488355328) :
    ∃ v' w', (Builtin.append_ #[t, t] ty #[v, .slice (some ⟨b, 0, none⟩) 1 c]).run P w = .ok v' w' ∧ w'.ownsRow base e 1 v n xs ∧ w.grownBy w' v.ownBlock := by
  have hsmall : n + 1 ≤ 9223372036854775807 := by simp only [maxLen] at h63; omega
  have hnews : ∀ j u, [x][j]? = some u → w.cell? ((⟨b, 0, none⟩ : Addr).add j) = some u := by
    intro j u hj
    match j, hj with
    | 0, hj =>
      simp at hj
      subst hj
      simpa [Addr.add] using hx
  have h1' : ∀ u ∈ [x], u.oneCell' = true := by simpa using h1
  have key : ∀ (o : Obj) (row : Option Nat), (w.drew.alloc o).ownsRow base e 1 v n xs ∧ w.grownBy (w.drew.alloc o) row := fun o row => by
    have hg : ∀ row, w.grownBy (w.drew.alloc o) row := fun row => ⟨rfl, rfl, rfl, by simp, fun k hk _ => heap_alloc_old w.drew o hk⟩
    exact ⟨hown.kept (hg none) (by cases hv : v.ownBlock <;> simp), hg row⟩
  rcases hown.2 with ⟨rfl, rfl⟩ | ⟨g, cap, cur, rfl, hbg, hg, hnc, hcm, hcs, htake⟩
  · have hr := run_append_nil (P := P) w t ty e i z ht hi hz ⟨b, 0, none⟩ 1 c [x] (by simp [hsize]) hnews (by omega) (by omega) (by omega)
    exact ⟨_, _, hr, key _ _⟩
  · by_cases hroom : n + 1 ≤ cap
    · have hr := run_append_room (P := P) w t ty e i ht hi g n cap cur hg ⟨b, 0, none⟩ 1 c [x] (by simp [hsize]) hnews h1' hroom (by rw [hsize, hcs]; simp; omega)
      refine ⟨_, _, hr, ⟨hown.1, .inr ⟨g, cap, _, rfl, hbg, setRow_heap w g cur _ e _ hg, hnc, hcm, ?_, ?_⟩⟩, ⟨rfl, rfl, rfl, by simp, fun k _ hk => setRow_other w g k _ (fun e => hk (by simp [Value.ownBlock, e]))⟩⟩
      · simp only [List.size_toArray, List.length_append, List.length_take, List.length_drop, Array.length_toList, List.length_cons, List.length_nil, hsize, hcs]
        omega
      · have hl : (cur.toList.take (n * i.size)).length = n * 1 := by rw [hsize, htake, hown.1]
        rw [List.append_assoc, ← hl, List.take_left, hsize, htake]
    · have holds : ∀ j u, xs[j]? = some u → w.cell? ((⟨g, 0, none⟩ : Addr).add j) = some u := hown.cells (g := g) rfl
      have hr := run_append_grow (P := P) w t ty e i z ht hi hz ⟨g, 0, none⟩ n cap xs (by rw [hsize]; exact hown.1) holds ⟨b, 0, none⟩ 1 c [x] (by simp [hsize]) hnews (by omega) (by omega) (growslice_fits (by omega) hbytes)
      exact ⟨_, _, hr, key _ _⟩

section
variable {P : Program} {ops : Array Oper} {rest : List Oper} {o : Oper} {a : Act} {Q : Exit → Act → World → Prop}
/-- append(v, x), x of one cell, whose answer nobody reads; behind 'at_builtin'. -/
theorem print_append_drop {W : World} (base : Nat) (hgd : o.guard = none) (s x : Operand) (t e : TypeId) (z : Value) (bytes : Nat)
    (ho : o.op = .call { callee := .builtin .append, args := #[s, x], argTypes := #[t, t] })
    (ht : P.underlying t = some (.slice e)) (hinfo : (P.info? e).map (fun i => (i.zero, i.size, i.bytes)) = some (some z, 1, bytes)) (hz : z.cells.size = 1) (hb0 : 0 < bytes)
    (v : Value) (n : Nat) (xs : List Value) (y : Value) (hs : a.eval s = v) (hx : a.eval x = .slice (some ⟨W.heap.size, 0, none⟩) 1 1) (h1 : y.oneCell' = true)
    (HO : W.ownsRow base e 1 v n xs) (hl : (n + 1) * bytes ≤ 140737488355328)
    (h : ∀ v1 w1, w1.ownsRow base e 1 v n xs → W.grownBy w1 v.ownBlock → wpList P ops Q rest (a.put o.dst v1) w1) :
    wpList P ops Q (o :: rest) a (W.alloc (.cells [y].toArray e)) := by
  obtain ⟨i0, hi, hzz⟩ := Option.map_eq_some_iff.1 hinfo
  simp only [Prod.mk.injEq] at hzz
  obtain ⟨hz0, hz1, hz2⟩ := hzz
  have hlen : n + 1 ≤ 140737488355328 := Nat.le_trans (Nat.le_mul_of_pos_right _ hb0) hl
  have hcell : (W.alloc (.cells [y].toArray e)).cell? ⟨W.heap.size, 0, none⟩ = some y := by simp
  refine wpList_plain hgd fun K hK => ?_
  obtain ⟨v', w', hr, h2, h3⟩ := run_append_kept (P := P) (W.alloc (.cells [y].toArray e)) base t o.type e i0 z ht hi hz0 hz1 hz v n xs (HO.alloc _) W.heap.size 1 y hcell h1 (by simp only [maxLen]; omega) (by rw [hz2]; exact hl)
  unfold Oper.wp execOp
  simp only [ho, resolve, invoke, builtin, Sem.run_bind, Sem.run_pure, Result.andThen_ok, List.map_toArray, List.map_cons, List.map_nil, hs, hx, hr]
  exact hK _ _ (h v' w' h2 (World.grownBy.trans (World.grownBy_alloc W _ _) h3))
end

/-- A row of fields was written behind its length, or nowhere. -/
theorem OutW.keepRow {B : Nat} {d : WD} {fv iv mv sv zv : Value} {us : List Value} {w w1 : World} (h : OutW B d fv iv mv sv zv us w) {i : Nat} {u : Value} {r : List Int} (hu : us[i]? = some u) (hd : d.fields[i]? = some r)
    (ho : w1.ownsRow B TII 1 u r.length (r.map (Value.int .i64))) (hf : Fr w w1 (fun k => some k = u.ownBlock)) : OutW B d fv iv mv sv zv us w1 := by
  have hm := List.mem_of_getElem? hu
  have hr := h.inn i u r hu hd
  refine ⟨owns_fr h.f hf fun k hk e3 => ne_typed h.f hr (by decide) k hk e3, fun i' u' r' a1 a2 => ?_, h.dd,
    owns_fr h.i hf fun k hk e3 => h.dib k hk u hm e3.symm, owns_fr h.m hf fun k hk e3 => ne_typed h.m hr (by decide) k hk e3, owns_fr h.s hf fun k hk e3 => h.dsb k hk u hm e3.symm,
    owns_fr h.z hf fun k hk e3 => ne_typed h.z hr (by decide) k hk e3, h.dib, h.dsb, h.dis, h.dmz⟩
  rcases Nat.decEq i i' with hne | rfl
  · exact owns_fr (h.inn i' u' r' a1 a2) hf fun k hk e3 => h.dd i i' u u' hne hu a1 k e3.symm hk
  · rw [hu, Option.some.injEq] at a1
    rw [hd, Option.some.injEq] at a2
    subst a1 a2
    exact ho
end Go.Proofs.Ytphhdmopfmelbaa

/- larchlaw12, RecordMemory: the two worlds while they are written. No walk. -/
namespace Go.Proofs.Ytphhdmopfmelbaa
open Go.RowKit Go.Proofs.YtphhdmopfmelbaaW.PrintWords
set_option linter.unusedVariables false
set_option linter.unusedSimpArgs false

def Full (q : Nat) (D0 D : WD) : Prop := MW q D0 D D0.fields.length 0 D0.infos.length D0.marks.length D0.states.length D0.frozen.length
/-- Worlds below q are written whole, q and above stand as they were. -/
def MR (B : Nat) (es : List Ent) (v : Value) (D0 : WD) (q : Nat) (w : World) : Prop :=
  ∃ Ds, WL B Ds es v w ∧ Ds.length = 2 ∧ (∀ p, p < q → p < 2 → ∃ D, Ds[p]? = some D ∧ Full p D0 D) ∧ ∀ p, q ≤ p → p < 2 → Ds[p]? = some D0
/-- World q is being written and stands at D. -/
def MS (B : Nat) (es : List Ent) (v : Value) (D0 : WD) (q : Nat) (D : WD) (w : World) : Prop :=
  ∃ Ds, WL B Ds es v w ∧ Ds.length = 2 ∧ Ds[q]? = some D ∧ (∀ p, p < q → p < 2 → ∃ D, Ds[p]? = some D ∧ Full p D0 D) ∧ ∀ p, q < p → p < 2 → Ds[p]? = some D0
section
variable {B : Nat} {es : List Ent} {v : Value} {D0 D D' : WD} {q : Nat} {w w1 : World}
theorem MR.start (h : WL B (List.replicate 2 D0) es v w) : MR B es v D0 0 w :=
  ⟨_, h, by simp, fun p hp => by omega, fun p _ hp => by
    rcases (show p = 0 ∨ p = 1 by omega) with rfl | rfl <;> rfl⟩
theorem MR.len (h : MR B es v D0 q w) : es.length = 2 := by
  obtain ⟨Ds, hw, hl, _⟩ := h
  rw [hw.len, hl]
theorem MR.open_ (h : MR B es v D0 q w) (hq : q < 2) : MS B es v D0 q D0 w := by
  obtain ⟨Ds, hw, hl, h1, h2⟩ := h
  exact ⟨Ds, hw, hl, h2 q (Nat.le_refl _) hq, h1, fun p h3 h4 => h2 p (by omega) h4⟩
theorem MS.close (h : MS B es v D0 q D w) (hf : Full q D0 D) : MR B es v D0 (q + 1) w := by
  obtain ⟨Ds, hw, hl, h0, h1, h2⟩ := h
  refine ⟨Ds, hw, hl, fun p hp hp2 => ?_, fun p hp hp2 => h2 p (by omega) hp2⟩
  rcases Nat.lt_or_ge p q with h3 | h3
  · exact h1 p h3 hp2
  · have : p = q := by omega
    subst this
    exact ⟨D, h0, hf⟩
theorem MS.ent (h : MS B es v D0 q D w) : ∃ e, es[q]? = some e ∧ e.at_ B D w ∧ ∃ (g c : Nat), v = .slice (some ⟨g, 0, none⟩) 2 c ∧ 2 ≤ c ∧ ∀ (i : Nat) (u : Value), e.cells[i]? = some u → w.cell? ⟨g, q * 5 + i, none⟩ = some u := by
  obtain ⟨Ds, hw, hl, h0, h1, h2⟩ := h
  have hlen := hw.len
  have hq := (List.getElem?_eq_some_iff.1 h0).1
  have he : es[q]? = some es[q] := List.getElem?_eq_getElem (by omega)
  obtain ⟨g, c, hv, hc, hcell⟩ := hw.ent he
  rw [hlen, hl] at hv hc
  exact ⟨_, he, hw.out q D _ h0 he, g, c, hv, hc, hcell⟩
theorem MS.below (h : MS B es v D0 q D w) (hb : Below w.heap.size w w1) : MS B es v D0 q D w1 := by
  obtain ⟨Ds, hw, r⟩ := h
  exact ⟨Ds, hw.below hb, r⟩
theorem MR.below (h : MR B es v D0 q w) (hb : Below w.heap.size w w1) : MR B es v D0 q w1 := by
  obtain ⟨Ds, hw, r⟩ := h
  exact ⟨Ds, hw.below hb, r⟩
theorem MR.drew (h : MR B es v D0 q w) (n : Nat) : MR B es v D0 q (w.drewN n) := h.below (pw_below_drewN (Below.refl _ _) n)
theorem MS.turn {e : Ent} (h : MS B es v D0 q D w) (he : es[q]? = some e) (ho : e.at_ B D' w1) (hf : Fr w w1 e.foot) : MS B es v D0 q D' w1 := by
  obtain ⟨Ds, hw, hl, h0, h1, h2⟩ := h
  refine ⟨_, hw.set he h0 ho hf, by rw [List.length_set]; exact hl, List.getElem?_set_self (List.getElem?_eq_some_iff.1 h0).1, fun p hp hp2 => ?_, fun p hp hp2 => ?_⟩
  · rw [List.getElem?_set_ne (by omega)]; exact h1 p hp hp2
  · rw [List.getElem?_set_ne (by omega)]; exact h2 p hp hp2
/-- All written: what stands in world q. -/
theorem MR.read (h : MR B es v D0 2 w) (hq : q < 2) : ∃ e D, es[q]? = some e ∧ e.at_ B D w ∧ Full q D0 D ∧ ∃ (g c : Nat), v = .slice (some ⟨g, 0, none⟩) 2 c ∧ 2 ≤ c ∧ ∀ (i : Nat) (u : Value), e.cells[i]? = some u → w.cell? ⟨g, q * 5 + i, none⟩ = some u := by
  obtain ⟨Ds, hw, hl, h1, h2⟩ := h
  obtain ⟨D, hD, hF⟩ := h1 q hq hq
  have hlen := hw.len
  have he : es[q]? = some es[q] := List.getElem?_eq_getElem (by omega)
  obtain ⟨g, c, hv, hc, hcell⟩ := hw.ent he
  rw [hlen, hl] at hv hc
  exact ⟨_, D, he, hw.out q D _ hD he, hF, g, c, hv, hc, hcell⟩
/-- The same, laid open. -/
theorem MS.opens (h : MS B es v D0 q D w) : ∃ (fv iv mv sv zv : Value) (bs : List Value) (g c : Nat), es[q]? = some ⟨fv, iv, mv, sv, zv, bs⟩ ∧ OutW B D fv iv mv sv zv bs w ∧ v = .slice (some ⟨g, 0, none⟩) 2 c ∧ 2 ≤ c ∧
    w.cell? ⟨g, q * 5, none⟩ = some fv ∧ w.cell? ⟨g, q * 5 + 1, none⟩ = some iv ∧ w.cell? ⟨g, q * 5 + 2, none⟩ = some mv ∧ w.cell? ⟨g, q * 5 + 3, none⟩ = some sv ∧ w.cell? ⟨g, q * 5 + 4, none⟩ = some zv := by
  obtain ⟨⟨fv, iv, mv, sv, zv, bs⟩, he, ho, g, c, hv, hc, hcell⟩ := h.ent
  exact ⟨fv, iv, mv, sv, zv, bs, g, c, he, ho, hv, hc, hcell 0 _ rfl, hcell 1 _ rfl, hcell 2 _ rfl, hcell 3 _ rfl, hcell 4 _ rfl⟩
theorem MR.opens (h : MR B es v D0 2 w) (hq : q < 2) : ∃ (fv iv mv sv zv : Value) (bs : List Value) (D : WD) (g c : Nat), OutW B D fv iv mv sv zv bs w ∧ Full q D0 D ∧ v = .slice (some ⟨g, 0, none⟩) 2 c ∧ 2 ≤ c ∧
    w.cell? ⟨g, q * 5, none⟩ = some fv ∧ w.cell? ⟨g, q * 5 + 1, none⟩ = some iv ∧ w.cell? ⟨g, q * 5 + 2, none⟩ = some mv ∧ w.cell? ⟨g, q * 5 + 3, none⟩ = some sv ∧ w.cell? ⟨g, q * 5 + 4, none⟩ = some zv := by
  obtain ⟨⟨fv, iv, mv, sv, zv, bs⟩, D, he, ho, hF, g, c, hv, hc, hcell⟩ := h.read hq
  exact ⟨fv, iv, mv, sv, zv, bs, D, g, c, ho, hF, hv, hc, hcell 0 _ rfl, hcell 1 _ rfl, hcell 2 _ rfl, hcell 3 _ rfl, hcell 4 _ rfl⟩
variable {fv iv mv sv zv : Value} {bs : List Value} {wB : World}
theorem MS.step (h : MS B es v D0 q D w) (hb : Below wB.heap.size wB w) (hB : wB.heap.size ≤ B) (he : es[q]? = some ⟨fv, iv, mv, sv, zv, bs⟩) (ho' : OutW B D' fv iv mv sv zv bs w1) (hf : Fr w w1 (OutFoot fv iv mv sv zv bs)) :
    Below wB.heap.size wB w1 ∧ MS B es v D0 q D' w1 := by
  obtain ⟨Ds, hw, hl, h0, _⟩ := id h
  exact ⟨hb.trans (hf.below hb.size (fun k hk => Nat.le_trans hB ((hw.out q D _ h0 he).foot hk).1)), h.turn he ho' hf⟩
theorem MS.drop (h : MS B es v D0 q D w) (hb : Below wB.heap.size wB w) (hB : wB.heap.size ≤ B) (he : es[q]? = some ⟨fv, iv, mv, sv, zv, bs⟩) (ho : OutW B D fv iv mv sv zv bs w) {i : Nat} {u : Value} {r : List Int} (hu : bs[i]? = some u) (hd : D.fields[i]? = some r)
    (hown : w1.ownsRow B TII 1 u r.length (r.map (Value.int .i64))) (hg : w.grownBy w1 u.ownBlock) : Below wB.heap.size wB w1 ∧ MS B es v D0 q D w1 := by
  have hf := Fr.of_grown hg
  exact h.step hb hB he (ho.keepRow hu hd hown hf) (hf.mono fun k _ hk => .inr (.inr (.inr (.inr (.inr ⟨u, List.mem_of_getElem? hu, hk.symm⟩)))))
theorem OutW.row {d : WD} {us : List Value} (h : OutW B d fv iv mv sv zv us w) {i : Nat} (hi : i < d.fields.length) : ∃ (ad : Addr) (c : Nat) (u : Value) (A : Option Addr) (c2 : Nat), fv = .slice (some ad) d.fields.length c ∧ us[i]? = some u ∧ d.fields[i]? = some (d.fields.getD i []) ∧ u = .slice A (d.fields.getD i []).length c2 ∧
    w.cell? (ad.add i) = some (.slice A (d.fields.getD i []).length c2) ∧ w.ownsRow B TII 1 u (d.fields.getD i []).length ((d.fields.getD i []).map (Value.int .i64)) := by
  have hlb := h.lb
  have hu : us[i]? = some us[i] := List.getElem?_eq_getElem (by omega)
  have hd : d.fields[i]? = some (d.fields.getD i []) := by simp [List.getD_eq_getElem?_getD, List.getElem?_eq_getElem hi]
  generalize us[i] = u at hu
  obtain ⟨ad, c, e, _, hb, hc, _⟩ := own_at h.f hu
  have hr := h.inn i u _ hu hd
  obtain ⟨A, c2, e2, _⟩ := owns_slice hr
  exact ⟨ad, c, u, A, c2, e, hu, hd, e2, by rw [hc, e2], hr⟩
section
variable {B q i j a b s t : Nat} {D0 D : WD} {fv iv mv sv zv : Value} {us : List Value} {w : World}
theorem OutW.rowM (h : OutW B D fv iv mv sv zv us w) (hm : MW q D0 D i j a b s t) {k m : Nat} (hi : k < D0.fields.length) (hk : m = (D0.fields.getD k []).length) : ∃ (ad : Addr) (c : Nat) (u : Value) (A : Option Addr) (c2 : Nat), fv = .slice (some ad) D0.fields.length c ∧ us[k]? = some u ∧ D.fields[k]? = some (D.fields.getD k []) ∧ (D.fields.getD k []).length = m ∧ u = .slice A m c2 ∧
    w.cell? (ad.add k) = some (.slice A m c2) ∧ w.ownsRow B TII 1 u (D.fields.getD k []).length ((D.fields.getD k []).map (Value.int .i64)) := by
  have h1 := hm.l0
  have h2 := hm.lr k
  rw [hk, ← h1, ← h2]
  obtain ⟨ad, c, u, A, c2, e1, e2, e3, e4, e5, e6⟩ := h.row (i := k) (by rw [h1]; exact hi)
  exact ⟨ad, c, u, A, c2, e1, e2, e3, rfl, e4, e5, e6⟩
theorem OutW.lenF (h : OutW B D fv iv mv sv zv us w) (hm : MW q D0 D i j a b s t) : ∃ (A : Option Addr) (c : Nat), fv = .slice A D0.fields.length c := by
  obtain ⟨A, c, e, _⟩ := owns_slice h.f
  exact ⟨A, c, by rw [e, hm.l0]⟩
theorem OutW.lenS (h : OutW B D fv iv mv sv zv us w) (hm : MW q D0 D i j a b s t) : ∃ (A : Option Addr) (c : Nat), sv = .slice A D0.states.length c := by
  obtain ⟨A, c, e, _⟩ := owns_slice h.s
  exact ⟨A, c, by rw [e, hm.l3]⟩
theorem OutW.atFM (h : OutW B D fv iv mv sv zv us w) (hm : MW q D0 D i j a b s t) {k l m : Nat} (hi : k < D0.fields.length) (hk : m = (D0.fields.getD k []).length) (hj : l < m) : ∃ (ad : Addr) (c : Nat) (ad2 : Addr) (c2 : Nat) (x0 : Int), x0 = (D.fields.getD k []).getD l 0 ∧ fv = .slice (some ad) D0.fields.length c ∧ w.cell? (ad.add k) = some (.slice (some ad2) m c2) ∧ w.cell? (ad2.add l) = some (.int .i64 x0) ∧
    ∀ w1, OutW B D fv iv mv sv zv us w1 → w1.frozen? (ad2.add l) = false ∧ ∀ x, OutW B { D with fields := D.fields.set k ((D.fields.getD k []).set l x) } fv iv mv sv zv us (w1.setCell (ad2.add l) (.int .i64 x)) ∧ Fr w1 (w1.setCell (ad2.add l) (.int .i64 x)) (OutFoot fv iv mv sv zv us) := by
  have h1 := hm.l0
  have h2 := hm.lr k
  subst hk
  rw [← h1, ← h2]
  obtain ⟨ad, c, ad2, c2, r⟩ := h.atF (i := k) (j := l) (by rw [h1]; exact hi) (by rw [h2]; exact hj)
  exact ⟨ad, c, ad2, c2, _, rfl, r⟩
theorem OutW.atIM (h : OutW B D fv iv mv sv zv us w) (hm : MW q D0 D i j a b s t) (he : D0.infos.length = D0.fields.length) {k : Nat} (hi : k < D0.fields.length) : ∃ (ad : Addr) (c : Nat) (x0 : Int), x0 = D.infos.getD k 0 ∧ iv = .slice (some ad) D0.fields.length c ∧ w.cell? (ad.add k) = some (.int .i64 x0) ∧
    ∀ w1, OutW B D fv iv mv sv zv us w1 → w1.frozen? (ad.add k) = false ∧ ∀ x, OutW B { D with infos := D.infos.set k x } fv iv mv sv zv us (w1.setCell (ad.add k) (.int .i64 x)) ∧ Fr w1 (w1.setCell (ad.add k) (.int .i64 x)) (OutFoot fv iv mv sv zv us) := by
  have h1 := hm.l1
  rw [← he, ← h1]
  obtain ⟨ad, c, r⟩ := h.atI (j := k) (by rw [h1, he]; exact hi)
  exact ⟨ad, c, _, rfl, r⟩
theorem OutW.atMM (h : OutW B D fv iv mv sv zv us w) (hm : MW q D0 D i j a b s t) (he : D0.marks.length = D0.fields.length) {k : Nat} (hi : k < D0.fields.length) : ∃ (ad : Addr) (c : Nat) (x0 : Bool), x0 = D.marks.getD k false ∧ mv = .slice (some ad) D0.fields.length c ∧ w.cell? (ad.add k) = some (.bool x0) ∧
    ∀ w1, OutW B D fv iv mv sv zv us w1 → w1.frozen? (ad.add k) = false ∧ ∀ x, OutW B { D with marks := D.marks.set k x } fv iv mv sv zv us (w1.setCell (ad.add k) (.bool x)) ∧ Fr w1 (w1.setCell (ad.add k) (.bool x)) (OutFoot fv iv mv sv zv us) := by
  have h1 := hm.l2
  rw [← he, ← h1]
  obtain ⟨ad, c, r⟩ := h.atM (j := k) (by rw [h1, he]; exact hi)
  exact ⟨ad, c, _, rfl, r⟩
theorem OutW.atSM (h : OutW B D fv iv mv sv zv us w) (hm : MW q D0 D i j a b s t) {k : Nat} (hi : k < D0.states.length) : ∃ (ad : Addr) (c : Nat) (x0 : Int), x0 = D.states.getD k 0 ∧ sv = .slice (some ad) D0.states.length c ∧ w.cell? (ad.add k) = some (.int .i64 x0) ∧
    ∀ w1, OutW B D fv iv mv sv zv us w1 → w1.frozen? (ad.add k) = false ∧ ∀ x, OutW B { D with states := D.states.set k x } fv iv mv sv zv us (w1.setCell (ad.add k) (.int .i64 x)) ∧ Fr w1 (w1.setCell (ad.add k) (.int .i64 x)) (OutFoot fv iv mv sv zv us) := by
  have h1 := hm.l3
  rw [← h1]
  obtain ⟨ad, c, r⟩ := h.atS (j := k) (by rw [h1]; exact hi)
  exact ⟨ad, c, _, rfl, r⟩
theorem OutW.atZM (h : OutW B D fv iv mv sv zv us w) (hm : MW q D0 D i j a b s t) (he : D0.frozen.length = D0.states.length) {k : Nat} (hi : k < D0.states.length) : ∃ (ad : Addr) (c : Nat) (x0 : Bool), x0 = D.frozen.getD k false ∧ zv = .slice (some ad) D0.states.length c ∧ w.cell? (ad.add k) = some (.bool x0) ∧
    ∀ w1, OutW B D fv iv mv sv zv us w1 → w1.frozen? (ad.add k) = false ∧ ∀ x, OutW B { D with frozen := D.frozen.set k x } fv iv mv sv zv us (w1.setCell (ad.add k) (.bool x)) ∧ Fr w1 (w1.setCell (ad.add k) (.bool x)) (OutFoot fv iv mv sv zv us) := by
  have h1 := hm.l4
  rw [← he, ← h1]
  obtain ⟨ad, c, r⟩ := h.atZ (j := k) (by rw [h1, he]; exact hi)
  exact ⟨ad, c, _, rfl, r⟩
end
theorem seen_form (d : WD) (l : List ActD) : (seenW d l).infos.length = (seenW d l).fields.length ∧ (seenW d l).marks.length = (seenW d l).fields.length ∧ (seenW d l).frozen.length = (seenW d l).states.length := by
  unfold seenW
  by_cases hp : playE d l = 0
  · rw [if_pos hp]
    have hf := (runD_form (Good.of hp).Form l (Good.of hp).fits).1
    have h1 := hf.e1
    have h2 := hf.e2
    have h3 := hf.e4
    exact ⟨by omega, by omega, by omega⟩
  · rw [if_neg hp]
    exact ⟨rfl, rfl, rfl⟩
end
theorem acts_pair {w : World} {A5 A : Option Addr} {l m : List ActD} (h5 : ActsAt w A5 (l ++ m)) (h : ActsAt w A l) {j : Nat} (hj : j < l.length) : ∃ (b o b' o' : Nat) (x : ActD), A5 = some ⟨b, o, none⟩ ∧ A = some ⟨b', o', none⟩ ∧
    (w.cell? ⟨b, o + j * 5, none⟩ = some (.int .i64 x.k) ∧ w.cell? ⟨b, o + j * 5 + 1, none⟩ = some (.int .i64 x.at_) ∧ w.cell? ⟨b, o + j * 5 + 2, none⟩ = some (.int .i64 x.a) ∧ w.cell? ⟨b, o + j * 5 + 3, none⟩ = some (.int .i64 x.b) ∧ w.cell? ⟨b, o + j * 5 + 4, none⟩ = some (.int .i64 x.c)) ∧
    (w.cell? ⟨b', o' + j * 5, none⟩ = some (.int .i64 x.k) ∧ w.cell? ⟨b', o' + j * 5 + 1, none⟩ = some (.int .i64 x.at_) ∧ w.cell? ⟨b', o' + j * 5 + 2, none⟩ = some (.int .i64 x.a) ∧ w.cell? ⟨b', o' + j * 5 + 3, none⟩ = some (.int .i64 x.b) ∧ w.cell? ⟨b', o' + j * 5 + 4, none⟩ = some (.int .i64 x.c)) := by
  have hg : l[j]? = some l[j] := List.getElem?_eq_getElem hj
  obtain ⟨b, o, e, hc⟩ := h5 (by simp; omega)
  obtain ⟨b', o', e', hc'⟩ := h (by omega)
  have hx := hc j l[j] (by rw [List.getElem?_append_left hj]; exact hg)
  have hx' := hc' j l[j] hg
  exact ⟨b, o, b', o', l[j], e, e', ⟨hx 0 _ rfl, hx 1 _ rfl, hx 2 _ rfl, hx 3 _ rfl, hx 4 _ rfl⟩, ⟨hx' 0 _ rfl, hx' 1 _ rfl, hx' 2 _ rfl, hx' 3 _ rfl, hx' 4 _ rfl⟩⟩
theorem acts_last {w : World} {A5 : Option Addr} {l : List ActD} {x : ActD} (h5 : ActsAt w A5 (l ++ [x])) : ∃ (b o : Nat), A5 = some ⟨b, o, none⟩ ∧ w.cell? ⟨b, o + l.length * 5, none⟩ = some (.int .i64 x.k) := by
  obtain ⟨b, o, e, hc⟩ := h5 (by simp)
  exact ⟨b, o, e, hc l.length x (by simp) 0 _ rfl⟩
end Go.Proofs.Ytphhdmopfmelbaa
