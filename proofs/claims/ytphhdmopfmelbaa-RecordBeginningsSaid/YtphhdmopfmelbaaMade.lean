/-
  A made world of records (of int): the struct of three lists, and what stands in memory, by numbers. No walk.
-/
import Derived.Test.YtphhdmopfmelbaaIdx
namespace Go.Proofs.Ytphhdmopfmelbaa
open Go.RowKit Go.Proofs.YtphhdmopfmelbaaW.PrintWords
set_option linter.unusedVariables false
set_option linter.unusedSimpArgs false

abbrev TPR : Nat := 150
abbrev TPX : Nat := 81
/-- The made world stands at m (of type TM): its records rs, their first infos fs, the SCX-records xs. -/
structure MadeAt (TM : Nat) (w : World) (B m : Nat) (rs fs xs : List Nat) (v1 v2 v3 : Value) : Prop where
  blk : Blk w m TM [v1, v2, v3]
  o1 : w.ownsRow B TPR 1 v1 rs.length (rs.map fun b => pv (some b))
  o2 : w.ownsRow B TPX 1 v2 fs.length (fs.map fun b => pv (some b))
  o3 : w.ownsRow B TPX 1 v3 xs.length (xs.map fun b => pv (some b))
  ne : ∀ k, v2.ownBlock = some k → v3.ownBlock ≠ some k
/-- The record of a number. -/
def rp (rs : List Nat) (n : Int) : Option Nat := if n < 0 then none else rs[n.toNat]?

section
variable {TM : Nat}
theorem MadeAt.fr {w w' : World} {B m : Nat} {rs fs xs : List Nat} {v1 v2 v3 : Value} (h : MadeAt TM w B m rs fs xs v1 v2 v3) {S : Nat → Prop} (hf : Fr w w' S)
    (h0 : ¬ S m) (h1 : ∀ k, v1.ownBlock = some k ∨ v2.ownBlock = some k ∨ v3.ownBlock = some k → ¬ S k) : MadeAt TM w' B m rs fs xs v1 v2 v3 :=
  ⟨hf.blk h.blk h0, owns_fr h.o1 hf (fun k hk => h1 k (.inl hk)), owns_fr h.o2 hf (fun k hk => h1 k (.inr (.inl hk))), owns_fr h.o3 hf (fun k hk => h1 k (.inr (.inr hk))), h.ne⟩
theorem MadeAt.below {w w' : World} {B m : Nat} {rs fs xs : List Nat} {v1 v2 v3 : Value} (h : MadeAt TM w B m rs fs xs v1 v2 v3) (hb : Below w.heap.size w w') : MadeAt TM w' B m rs fs xs v1 v2 v3 :=
  h.fr (S := fun _ => False) (Fr.of_below0 hb) id (fun _ _ => id)
/-- Blocks of other types have turned. -/
theorem MadeAt.types {w w' : World} {B m : Nat} {rs fs xs : List Nat} {v1 v2 v3 : Value} (h : MadeAt TM w B m rs fs xs v1 v2 v3) {S : Nat → Prop} (hf : Fr w w' S)
    (hS : ∀ k, S k → ∃ T ys, Blk w k T ys ∧ T ≠ TM ∧ T ≠ TPR ∧ T ≠ TPX) : MadeAt TM w' B m rs fs xs v1 v2 v3 := by
  refine h.fr hf (fun hs => ?_) (fun k hk hs => ?_)
  · obtain ⟨T, ys, hb, h1, _⟩ := hS m hs
    exact h1 (hb.inj h.blk).1
  · obtain ⟨T, ys, hb, _, h2, h3⟩ := hS k hs
    rcases hk with hk | hk | hk
    · obtain ⟨c, hc⟩ := owns_typed h.o1 k hk
      exact h2 (hb.inj hc).1
    · obtain ⟨c, hc⟩ := owns_typed h.o2 k hk
      exact h3 (hb.inj hc).1
    · obtain ⟨c, hc⟩ := owns_typed h.o3 k hk
      exact h3 (hb.inj hc).1
/-- A step of a gate that may have turned blocks of other types. -/
theorem MadeAt.step {w w' : World} {B B' m : Nat} {rs fs xs : List Nat} {v1 v2 v3 : Value} (h : MadeAt TM w B m rs fs xs v1 v2 v3) {g : Option Nat} {ks ks' : List Int} {S : Nat → Prop} (hg : GAtI w B' g ks) (hs : StepI B' g w w' ks' S)
    (hM : TM ≠ TT ∧ TM ≠ ti) (hS : ∀ k, S k → ∃ T ys, Blk w k T ys ∧ T ≠ TM ∧ T ≠ TPR ∧ T ≠ TPX) : MadeAt TM w' B m rs fs xs v1 v2 v3 :=
  h.types hs.fr (fun k hk => by
    rcases hk with hk | hk
    · obtain ⟨_, _, T, c, hT, hb⟩ := hg.foot hk
      refine ⟨T, c, hb, ?_, ?_, ?_⟩
      · rintro rfl; rcases hT with h | h
        · exact hM.1 h
        · exact hM.2 h
      · rintro rfl; rcases hT with h | h <;> exact absurd h (by decide)
      · rintro rfl; rcases hT with h | h <;> exact absurd h (by decide)
    · exact hS k hk)
end
/-- An element of an owned row of pointers. -/
theorem owns_at {w : World} {B e : Nat} {v : Value} {l : List Nat} (h : w.ownsRow B e 1 v l.length (l.map fun b => pv (some b))) {j : Nat} (hj : j < l.length) :
    ∃ b c, v = .slice (some ⟨b, 0, none⟩) l.length c ∧ w.cell? ⟨b, j, none⟩ = some (pv l[j]?) := by
  have hn : ¬ v = .slice none 0 0 := fun e => by
    rcases h.2 with ⟨_, h0⟩ | ⟨g, cap, cur, hv, _⟩
    · omega
    · rw [e] at hv; simp at hv
  obtain ⟨b, c, rest, hv, _, _, hb⟩ := owns_blk h hn
  refine ⟨b, c, hv, ?_⟩
  rw [hb.cell, List.getElem?_append_left (by simpa using hj)]
  simp [List.getElem?_eq_getElem hj]

/-! ### one of the three lists grows -/
/-- An append's own block, and the struct's. -/
def Pushed (m : Nat) (v : Value) (k : Nat) : Prop := k = m ∨ some k = v.ownBlock
section
variable {TM : Nat} {w w1 : World} {B m b n e : Nat} {rs fs xs : List Nat} {v1 v2 v3 v' : Value}
theorem pushed_fr {w w1 : World} {m j : Nat} {v v' : Value} (hg : w.grownBy w1 v.ownBlock) : Fr w (w1.setCell ⟨m, j, none⟩ v') (Pushed m v) :=
  ((Fr.of_grown hg).mono (fun _ _ h => .inr h)).setCell _ _ (fun _ => .inl rfl)
/-- By types: what is none of TM and e stays. -/
theorem pushed_types {w : World} {m TM e n B : Nat} {v : Value} {us ms : List Value} (hm : Blk w m TM ms) (ho : w.ownsRow B e 1 v n us) {k : Nat} (hk : Pushed m v k) : ∃ T ys, Blk w k T ys ∧ (T = TM ∨ T = e) := by
  rcases hk with rfl | hk
  · exact ⟨_, _, hm, .inl rfl⟩
  · obtain ⟨c, hc⟩ := owns_typed ho k hk.symm
    exact ⟨_, _, hc, .inr rfl⟩
theorem owns_store {w : World} {B e n m j T : Nat} {v u : Value} {us ms : List Value} (h : w.ownsRow B e 1 v n us) (hm : Blk w m T ms) (hne : e ≠ T) : (w.setCell ⟨m, j, none⟩ u).ownsRow B e 1 v n us :=
  owns_fr h ((Fr.refl w (fun k => k = m)).setCell _ _ (fun _ => rfl)) (fun k hk e2 => by
    subst e2
    obtain ⟨c, hc⟩ := owns_typed h _ hk
    exact hne (hc.inj hm).1)
theorem owns_grown {w w1 : World} {B B' e e' n n' : Nat} {v u : Value} {us ys : List Value} (h : w.ownsRow B e 1 v n us) (hu : w.ownsRow B' e' 1 u n' ys) (hg : w.grownBy w1 u.ownBlock) (hne : e ≠ e') : w1.ownsRow B e 1 v n us :=
  owns_fr h (Fr.of_grown hg) (fun k hk e2 => by
    obtain ⟨c, hc⟩ := owns_typed h k hk
    obtain ⟨d, hd⟩ := owns_typed hu k e2.symm
    exact hne (hc.inj hd).1)
theorem MadeAt.push1 (h : MadeAt TM w B m rs fs xs v1 v2 v3) (hT : TM ≠ TPR ∧ TM ≠ TPX) (hg : w.grownBy w1 v1.ownBlock) (ho : w1.ownsRow B TPR 1 v' (rs.length + 1) ((rs.map fun b => pv (some b)) ++ [pv (some b)])) :
    MadeAt TM (w1.setCell ⟨m, 0, none⟩ v') B m (rs ++ [b]) fs xs v' v2 v3 := by
  have hm1 : Blk w1 m TM [v1, v2, v3] := (Fr.of_grown hg).blk h.blk (fun e => by
    obtain ⟨c, hc⟩ := owns_typed h.o1 m e.symm
    exact hT.1 (h.blk.inj hc).1)
  exact ⟨hm1.set 0 v', by simpa using owns_store ho hm1 hT.1.symm, owns_store (owns_grown h.o2 h.o1 hg (by decide)) hm1 hT.2.symm, owns_store (owns_grown h.o3 h.o1 hg (by decide)) hm1 hT.2.symm, h.ne⟩
theorem MadeAt.push2 (h : MadeAt TM w B m rs fs xs v1 v2 v3) (hT : TM ≠ TPR ∧ TM ≠ TPX) (hg : w.grownBy w1 v2.ownBlock) (ho : w1.ownsRow B TPX 1 v' (fs.length + 1) ((fs.map fun b => pv (some b)) ++ [pv (some b)]))
    (hat : v'.ownBlock = v2.ownBlock ∨ ∃ b, v'.ownBlock = some b ∧ w.heap.size ≤ b) : MadeAt TM (w1.setCell ⟨m, 1, none⟩ v') B m rs (fs ++ [b]) xs v1 v' v3 := by
  have hm1 : Blk w1 m TM [v1, v2, v3] := (Fr.of_grown hg).blk h.blk (fun e => by
    obtain ⟨c, hc⟩ := owns_typed h.o2 m e.symm
    exact hT.2 (h.blk.inj hc).1)
  refine ⟨hm1.set 1 v', owns_store (owns_grown h.o1 h.o2 hg (by decide)) hm1 hT.1.symm, by simpa using owns_store ho hm1 hT.2.symm, owns_store (owns_fr h.o3 (Fr.of_grown hg) (fun k hk e => h.ne k e.symm hk)) hm1 hT.2.symm, fun k hk hk3 => ?_⟩
  rcases hat with hat | ⟨c, hc, hle⟩
  · exact h.ne k (hat ▸ hk) hk3
  · have := (World.ownsRow.lt h.o3 k hk3).2
    rw [hc] at hk
    cases hk
    omega
theorem MadeAt.push3 (h : MadeAt TM w B m rs fs xs v1 v2 v3) (hT : TM ≠ TPR ∧ TM ≠ TPX) (hg : w.grownBy w1 v3.ownBlock) (ho : w1.ownsRow B TPX 1 v' (xs.length + 1) ((xs.map fun b => pv (some b)) ++ [pv (some b)]))
    (hat : v'.ownBlock = v3.ownBlock ∨ ∃ b, v'.ownBlock = some b ∧ w.heap.size ≤ b) : MadeAt TM (w1.setCell ⟨m, 2, none⟩ v') B m rs fs (xs ++ [b]) v1 v2 v' := by
  have hm1 : Blk w1 m TM [v1, v2, v3] := (Fr.of_grown hg).blk h.blk (fun e => by
    obtain ⟨c, hc⟩ := owns_typed h.o3 m e.symm
    exact hT.2 (h.blk.inj hc).1)
  refine ⟨hm1.set 2 v', owns_store (owns_grown h.o1 h.o3 hg (by decide)) hm1 hT.1.symm, owns_store (owns_fr h.o2 (Fr.of_grown hg) (fun k hk e => h.ne k hk e.symm)) hm1 hT.2.symm, by simpa using owns_store ho hm1 hT.2.symm, fun k hk hk3 => ?_⟩
  rcases hat with hat | ⟨c, hc, hle⟩
  · exact h.ne k hk (hat ▸ hk3)
  · have := (World.ownsRow.lt h.o2 k hk).2
    rw [hc] at hk3
    cases hk3
    omega
end
/-- What stands in memory, by numbers: of record i the fields F i, the info I i, the mark M i; of SCX-record i what P i tells. -/
structure Stage (w : World) (B : Nat) (R : Nat → Option RecO) (X : Nat → Option ScxO) (rs fs xs : List Nat) (F : Nat → List (Option Nat)) (I : Nat → Option Nat) (M : Nat → Bool) (P : Nat → ScxO → Prop) : Prop where
  rep : Repint w R X
  ndr : rs.Nodup
  ndx : (fs ++ xs).Nodup
  len : fs.length = rs.length
  r : ∀ (i b : Nat), rs[i]? = some b → ∃ fb, R b = some ⟨[.int .i64 (i : Int)], fb, F i, I i, M i⟩ ∧ B ≤ fb
  x : ∀ (i b : Nat), xs[i]? = some b → ∃ s, X b = some s ∧ P i s
  f : ∀ b, b ∈ fs → (X b).isSome
  lo : ∀ b, b ∈ rs ++ (fs ++ xs) → B ≤ b

theorem nodup_get {l : List Nat} (h : l.Nodup) {i j b : Nat} (hi : l[i]? = some b) (hj : l[j]? = some b) : i = j := by
  obtain ⟨h1, e1⟩ := List.getElem?_eq_some_iff.1 hi
  obtain ⟨h2, e2⟩ := List.getElem?_eq_some_iff.1 hj
  exact (List.getElem_inj h).1 (e1.trans e2.symm)
theorem get_append_one {α : Type} {l : List α} {a b : α} {i : Nat} (h : (l ++ [a])[i]? = some b) : l[i]? = some b ∨ (i = l.length ∧ a = b) := by
  rcases Nat.lt_or_ge i l.length with hi | hi
  · rw [List.getElem?_append_left hi] at h; exact .inl h
  · rw [List.getElem?_append_right hi] at h
    have : i - l.length = 0 := by
      rcases Nat.eq_zero_or_pos (i - l.length) with h0 | h0
      · exact h0
      · rw [List.getElem?_eq_none (by simp; omega)] at h; cases h
    rw [this] at h
    exact .inr ⟨by omega, by simpa using h⟩

section
variable {w w' : World} {B B' : Nat} {R : Nat → Option RecO} {X : Nat → Option ScxO} {rs fs xs : List Nat} {F : Nat → List (Option Nat)} {I : Nat → Option Nat} {M : Nat → Bool} {P : Nat → ScxO → Prop}
theorem Stage.rep' (h : Stage w B R X rs fs xs F I M P) (hr : Repint w' R X) : Stage w' B R X rs fs xs F I M P := ⟨hr, h.ndr, h.ndx, h.len, h.r, h.x, h.f, h.lo⟩
theorem Stage.below (h : Stage w B R X rs fs xs F I M P) (hb : Below w.heap.size w w') : Stage w' B R X rs fs xs F I M P := h.rep' (h.rep.below hb)
theorem Stage.cong (h : Stage w B R X rs fs xs F I M P) {F' : Nat → List (Option Nat)} {I' : Nat → Option Nat} {M' : Nat → Bool} {P' : Nat → ScxO → Prop} (h1 : ∀ i, i < rs.length → F i = F' i) (h2 : ∀ i, i < rs.length → I i = I' i) (h3 : ∀ i, i < rs.length → M i = M' i) (h4 : ∀ i s, i < xs.length → P i s → P' i s) :
    Stage w B R X rs fs xs F' I' M' P' :=
  ⟨h.rep, h.ndr, h.ndx, h.len, fun i b hb => by
    have hl := (List.getElem?_eq_some_iff.1 hb).1
    rw [← h1 i hl, ← h2 i hl, ← h3 i hl]; exact h.r i b hb, fun i b hb => by
    obtain ⟨s, hs, hp⟩ := h.x i b hb
    exact ⟨s, hs, h4 i s (List.getElem?_eq_some_iff.1 hb).1 hp⟩, h.f, h.lo⟩
theorem Stage.okR (h : Stage w B R X rs fs xs F I M P) (n : Int) : Ok R (rp rs n) := fun b e => by
  unfold rp at e
  split at e
  · cases e
  · obtain ⟨fb, hfb, _⟩ := h.r _ b e
    simp [hfb]
theorem Stage.okX (h : Stage w B R X rs fs xs F I M P) (n : Nat) : Ok X xs[n]? := fun b e => by
  obtain ⟨s, hs, _⟩ := h.x n b e
  simp [hs]
theorem Stage.okF (h : Stage w B R X rs fs xs F I M P) (n : Nat) : Ok X fs[n]? := fun b e => h.f b (List.mem_of_getElem? e)
/-- A new record. -/
theorem Stage.addRec (h : Stage w B R X rs fs xs F I M P) (hbelow : Below w.heap.size w w') {b fb xb : Nat} {ps : List (Option Nat)} (hb : w.heap.size ≤ b) (hfb : w.heap.size ≤ fb) (hxb : w.heap.size ≤ xb) (hB : B ≤ w.heap.size)
    (hrep : Repint w' (upd R b ⟨[.int .i64 (rs.length : Int)], fb, ps, some xb, false⟩) (upd X xb firstO)) (hF : F rs.length = ps) (hI : I rs.length = some xb) (hM : M rs.length = false) :
    Stage w' B (upd R b ⟨[.int .i64 (rs.length : Int)], fb, ps, some xb, false⟩) (upd X xb firstO) (rs ++ [b]) (fs ++ [xb]) xs F I M P := by
  have hr1 : ∀ c ∈ rs, c < w.heap.size := fun c hc => by
    obtain ⟨i, hi⟩ := List.getElem?_of_mem hc
    obtain ⟨_, hfb, _⟩ := h.r i c hi
    exact (h.rep.recs _ _ hfb).1.lt
  have hx1 : ∀ c, (X c).isSome → c < w.heap.size := fun c hc => by
    obtain ⟨s, hs⟩ := Option.isSome_iff_exists.1 hc
    exact (h.rep.scx _ _ hs).lt
  have hx2 : ∀ c ∈ fs ++ xs, c < w.heap.size := fun c hc => by
    rcases List.mem_append.1 hc with hc | hc
    · exact hx1 c (h.f c hc)
    · obtain ⟨i, hi⟩ := List.getElem?_of_mem hc
      obtain ⟨s, hs, _⟩ := h.x i c hi
      exact (h.rep.scx _ _ hs).lt
  refine ⟨hrep, ?_, ?_, by simp [h.len], fun i c hc => ?_, fun i c hc => ?_, fun c hc => ?_, fun c hc => ?_⟩
  · rw [List.nodup_append]
    exact ⟨h.ndr, by simp, fun a ha c hc => by simp at hc; have := hr1 a ha; omega⟩
  · have hp : ((fs ++ xs) ++ [xb]).Nodup := by
      rw [List.nodup_append]
      exact ⟨h.ndx, by simp, fun a ha c hc => by simp at hc; have := hx2 a ha; omega⟩
    have : ((fs ++ [xb]) ++ xs).Perm ((fs ++ xs) ++ [xb]) := by
      rw [List.append_assoc, List.append_assoc]
      exact List.Perm.append_left fs List.perm_append_comm
    exact this.nodup_iff.2 hp
  · rcases get_append_one hc with hc | ⟨rfl, rfl⟩
    · obtain ⟨fb', h1, h2⟩ := h.r i c hc
      refine ⟨fb', ?_, h2⟩
      rw [upd_ne _ _ (by have := hr1 c (List.mem_of_getElem? hc); omega)]
      exact h1
    · rw [hF, hI, hM]
      exact ⟨fb, upd_self _ _ _, by omega⟩
  · obtain ⟨s, hs, hp⟩ := h.x i c hc
    exact ⟨s, by rw [upd_ne _ _ (by have := (h.rep.scx _ _ hs).lt; omega)]; exact hs, hp⟩
  · rcases List.mem_append.1 hc with hc | hc
    · rw [upd_ne _ _ (by have := hx1 c (h.f c hc); omega)]; exact h.f c hc
    · simp at hc; subst hc; simp [upd]
  · simp only [List.mem_append, List.mem_singleton] at hc
    rcases hc with (hc | hc) | (hc | hc) | hc
    · exact h.lo c (by simp [hc])
    · omega
    · exact h.lo c (by simp [hc])
    · omega
    · exact h.lo c (by simp [hc])
/-- A new SCX-record. -/
theorem Stage.addScx (h : Stage w B R X rs fs xs F I M P) (hbelow : Below w.heap.size w w') {b : Nat} {s : ScxO} (hb : w.heap.size ≤ b) (hB : B ≤ w.heap.size) (hrep : Repint w' R (upd X b s)) (hP : P xs.length s) :
    Stage w' B R (upd X b s) rs fs (xs ++ [b]) F I M P := by
  have hx1 : ∀ c, (X c).isSome → c < w.heap.size := fun c hc => by
    obtain ⟨s, hs⟩ := Option.isSome_iff_exists.1 hc
    exact (h.rep.scx _ _ hs).lt
  have hx2 : ∀ c ∈ fs ++ xs, c < w.heap.size := fun c hc => by
    rcases List.mem_append.1 hc with hc | hc
    · exact hx1 c (h.f c hc)
    · obtain ⟨i, hi⟩ := List.getElem?_of_mem hc
      obtain ⟨s, hs, _⟩ := h.x i c hi
      exact (h.rep.scx _ _ hs).lt
  refine ⟨hrep, h.ndr, ?_, h.len, h.r, fun i c hc => ?_, fun c hc => ?_, fun c hc => ?_⟩
  · rw [← List.append_assoc, List.nodup_append]
    exact ⟨h.ndx, by simp, fun a ha c hc => by simp at hc; have := hx2 a ha; omega⟩
  · rcases get_append_one hc with hc | ⟨rfl, rfl⟩
    · obtain ⟨s', hs, hp⟩ := h.x i c hc
      exact ⟨s', by rw [upd_ne _ _ (by have := (h.rep.scx _ _ hs).lt; omega)]; exact hs, hp⟩
    · exact ⟨s, upd_self _ _ _, hP⟩
  · rw [upd_ne _ _ (by have := hx1 c (h.f c hc); omega)]; exact h.f c hc
  · simp only [List.mem_append, List.mem_singleton] at hc
    rcases hc with hc | hc | hc | hc
    · exact h.lo c (by simp [hc])
    · exact h.lo c (by simp [hc])
    · exact h.lo c (by simp [hc])
    · omega
/-- Record i has turned. -/
theorem Stage.setRec (h : Stage w B R X rs fs xs F I M P) {i b fb : Nat} (hi : rs[i]? = some b) (ho : R b = some ⟨[.int .i64 (i : Int)], fb, F i, I i, M i⟩) {fl : List (Option Nat)} {inf : Option Nat} {mk : Bool}
    (hrep : Repint w' (upd R b ⟨[.int .i64 (i : Int)], fb, fl, inf, mk⟩) X) :
    Stage w' B (upd R b ⟨[.int .i64 (i : Int)], fb, fl, inf, mk⟩) X rs fs xs (fun k => if k = i then fl else F k) (fun k => if k = i then inf else I k) (fun k => if k = i then mk else M k) P := by
  refine ⟨hrep, h.ndr, h.ndx, h.len, fun k c hc => ?_, h.x, h.f, h.lo⟩
  by_cases e : k = i
  · subst e
    have : c = b := by rw [hi] at hc; exact (Option.some.inj hc).symm
    subst this
    obtain ⟨fb', h1, h2⟩ := h.r k c hi
    rw [ho] at h1
    have : fb = fb' := by simpa using congrArg RecO.fb (Option.some.inj h1)
    subst this
    exact ⟨fb, by simp [upd], h2⟩
  · obtain ⟨fb', h1, h2⟩ := h.r k c hc
    refine ⟨fb', ?_, h2⟩
    have : c ≠ b := fun e2 => by subst e2; exact e (nodup_get h.ndr hc hi)
    rw [upd_ne _ _ this]
    simp [e, h1]
/-- SCX-record i has turned. -/
theorem Stage.setScx (h : Stage w B R X rs fs xs F I M P) {i b : Nat} (hi : xs[i]? = some b) {s : ScxO} (hrep : Repint w' R (upd X b s)) {P' : Nat → ScxO → Prop} (hP : P' i s) (hP' : ∀ k s, k ≠ i → P k s → P' k s) :
    Stage w' B R (upd X b s) rs fs xs F I M P' := by
  have hnd := List.nodup_append.1 h.ndx
  refine ⟨hrep, h.ndr, h.ndx, h.len, h.r, fun k c hc => ?_, fun c hc => ?_, h.lo⟩
  · by_cases e : k = i
    · subst e
      have : c = b := by rw [hi] at hc; exact (Option.some.inj hc).symm
      subst this
      exact ⟨s, upd_self _ _ _, hP⟩
    · obtain ⟨s', h1, h2⟩ := h.x k c hc
      refine ⟨s', ?_, hP' k s' e h2⟩
      rw [upd_ne _ _ (fun e2 => by subst e2; exact e (nodup_get hnd.2.1 hc hi))]
      exact h1
  · have := h.f c hc
    unfold upd
    split <;> simp_all
end
end Go.Proofs.Ytphhdmopfmelbaa
