/- cell.Ids: NewTape, Kinds; what holds while the acts go. -/
import Derived.Test.YtoeaoeekjabaaaaIdD
import Derived.Test.YtoeaoeekjabaaaaSl
namespace Go.Proofs.Ytoeaoeekjabaaaa
open Go.RowKit Go.Proofs.YtoeaoeekjabaaaaW.PrintWords
set_option linter.unusedVariables false
set_option linter.unusedSimpArgs false

abbrev TII : Nat := 3
abbrev TPT : Nat := 37
abbrev TAT : Nat := 36
abbrev TPC : Nat := 44
set_option maxHeartbeats 400000 in
theorem tape_new (w : World) : Calls Try.prog 17 #[] w fun e w' => ∃ t, e = .returned (.pointer (some ⟨t, 0, none⟩)) ∧ TapeI w' w.heap.size t [] ∧ Below w.heap.size w w' := by
  have hb := Blk.new w 65 [.slice none 0 0]
  have H : TapeI (w.alloc (.cells #[.slice none 0 0] 65)) w.heap.size w.heap.size [] ∧ Below w.heap.size w (w.alloc (.cells #[.slice none 0 0] 65)) :=
    ⟨⟨.slice none 0 0, Nat.le_refl _, hb, World.ownsRow_nil _ _ _ _, by simp [Value.ownBlock]⟩, (Below.refl _ _).alloc (Nat.le_refl _) _⟩
  have H' := Lib.hid H
  clear hb H
  go_enter Try.func17, Try.ntmps17
  go_wp2
  go_ret
  exact ⟨_, rfl, H'.out⟩
set_option maxHeartbeats 400000 in
theorem tape_kinds (w : World) (B t : Nat) (ks : List Int) (h : TapeI w B t ks) (hl : ks.length ≤ 1000000000) :
    Calls Try.prog 23 #[.pointer (some ⟨t, 0, none⟩)] w fun e w' => ∃ v, e = .returned v ∧ w'.ownsRow w.heap.size TII 1 v ks.length (ks.map (Value.int .i64)) ∧ Below w.heap.size w w' := by
  obtain ⟨v, hB, hb, ho, hne⟩ := h
  obtain ⟨A, c, hv, hr, _⟩ := owns_slice ho
  have hnil : A = none → ks.length = 0 ∧ c = 0 := fun e => by
    subst e
    rcases ho.2 with ⟨h1, h2⟩ | ⟨g, cap, cur, h1, _⟩
    · rw [hv] at h1
      exact ⟨h2, (Value.slice.inj h1).2.2⟩
    · rw [hv] at h1
      exact absurd (Value.slice.inj h1).1 (by simp)
  have hc : w.cell? ⟨t, 0, none⟩ = some (.slice A ks.length c) := by rw [hb.cell 0, hv]; rfl
  have HC := Lib.hid (clone_any_int A ks.length c _ w hnil hr (by intro u hu; obtain ⟨n, _, rfl⟩ := List.mem_map.1 hu; rfl) (by omega))
  refine calls_hide fun Q HQ => ?_
  have HQ' := Lib.hid HQ
  clear HQ ho hv hr hnil hb
  go_enter Try.func23, Try.ntmps23
  go_wp2_with fail
  refine HC.out.mono ?_
  rintro e w1 ⟨A', c', rfl, h1, h2, h3, h4⟩
  have H1 := Lib.hid h1
  have H4 := Lib.hid h4
  clear h1 h2 h3 h4 HC
  go_wp2
  exact HQ'.out _ _ ⟨_, rfl, H1.out, H4.out⟩

theorem TapeI.gate {w : World} {B t : Nat} {ks : List Int} (h : TapeI w B t ks) : GAtI w B (some t) ks := fun t' e => by cases e; exact h
theorem gfoot_some {w : World} {t k : Nat} : GFoot w (some t) k ↔ TFoot w t k := ⟨fun ⟨t', e, h⟩ => by cases e; exact h, fun h => ⟨t, rfl, h⟩⟩
theorem thOf_ptr {w : World} {bs : List Nat} (h : ∀ b ∈ bs, Blk w b TTH [.int .i64 0]) (n : Int) : PtrTo TTH 1 w (thOf bs n) := fun b e => by
  unfold thOf at e
  split at e
  · cases e
  · exact ⟨_, h b (List.mem_of_getElem? e), rfl⟩
theorem thOf_inj {bs : List Nat} (hd : bs.Nodup) {m n : Int} (hm : rightI bs.length m) (hn : rightI bs.length n) : thOf bs m = thOf bs n ↔ m = n := by
  refine ⟨fun h => ?_, fun h => by rw [h]⟩
  have m0 := hm.1
  have m1 := hm.2
  have n0 := hn.1
  have n1 := hn.2
  unfold thOf at h
  by_cases a : m < 0
  · by_cases b : n < 0
    · omega
    · rw [if_pos a, if_neg b, List.getElem?_eq_getElem (by omega)] at h; cases h
  · by_cases b : n < 0
    · rw [if_neg a, if_pos b, List.getElem?_eq_getElem (by omega)] at h; cases h
    · rw [if_neg a, if_neg b, List.getElem?_eq_getElem (by omega), List.getElem?_eq_getElem (by omega)] at h
      have := (List.getElem_inj hd).1 (Option.some.inj h)
      omega

/-- What Ids holds while the acts go. -/
structure IdM (w0 : World) (ba g g2 t : Nat) (bs cs : List Nat) (d ks ans : List Int) (ov : Value) (w : World) : Prop where
  box : Blk w ba TAT [.slice (some ⟨g, 0, none⟩) bs.length bs.length]
  all : Blk w g TPT (bs.map fun b => pv (some b))
  th : ∀ b ∈ bs, Blk w b TTH [.int .i64 0]
  ndb : bs.Nodup
  row : Blk w g2 TPC (cs.map fun c => pv (some c))
  len : cs.length = d.length
  cell : ∀ (i c : Nat) (n : Int), cs[i]? = some c → d[i]? = some n → Blk w c TCT [pv (thOf bs n)]
  ndc : cs.Nodup
  lo : ∀ c ∈ cs, w0.heap.size ≤ c
  ok : OkC bs.length d
  tape : TapeI w w0.heap.size t ks
  out : w.ownsRow w0.heap.size TII 1 ov ans.length (ans.map (Value.int .i64))
  apart : ∀ k, ov.ownBlock = some k → ¬ TFoot w t k
  below : Below w0.heap.size w0 w
section
variable {w0 w w1 : World} {ba g g2 t : Nat} {bs cs : List Nat} {d ks ks' ans : List Int} {ov v' : Value}
theorem IdM.at_ (h : IdM w0 ba g g2 t bs cs d ks ans ov w) {i : Nat} (hi : i < d.length) : ∃ (c : Nat) (n : Int), cs[i]? = some c ∧ d[i]? = some n ∧ Blk w c TCT [pv (thOf bs n)] ∧ rightI bs.length n := by
  have h1 : cs[i]? = some (cs[i]'(by rw [h.len]; exact hi)) := List.getElem?_eq_getElem _
  have h2 : d[i]? = some d[i] := List.getElem?_eq_getElem hi
  exact ⟨_, _, h1, h2, h.cell i _ _ h1 h2, h.ok _ (List.getElem_mem hi)⟩
/-- The gate has been passed, a cell has turned. -/
theorem IdM.act (h : IdM w0 ba g g2 t bs cs d ks ans ov w) {i c : Nat} (hi : i < d.length) (hc : cs[i]? = some c) {n : Int} (hn : rightI bs.length n) (hs : StepI w0.heap.size (some t) w w1 ks' (fun k => k = c)) (hb : Blk w1 c TCT [pv (thOf bs n)]) :
    IdM w0 ba g g2 t bs cs (d.set i n) ks' ans ov w1 := by
  obtain ⟨c', n0, hc', hd0, hb0, _⟩ := h.at_ hi
  rw [hc] at hc'
  cases hc'
  have ne : ∀ {k T : Nat} {ys : List Value}, Blk w k T ys → T ≠ TCT → ¬ k = c := fun hk hT e => by
    subst e
    exact hT (hk.inj hb0).1
  have hn0 : ∀ k, ov.ownBlock = some k → ¬ (GFoot w (some t) k ∨ k = c) := fun k hk hx => by
    rcases hx with hx | hx
    · exact h.apart k hk (gfoot_some.1 hx)
    · obtain ⟨ys, hy⟩ := owns_typed h.out k hk
      exact ne hy (by decide) hx
  refine ⟨hs.blk h.tape.gate h.box (by decide) (by decide) (ne h.box (by decide)), hs.blk h.tape.gate h.all (by decide) (by decide) (ne h.all (by decide)), fun b hb => hs.blk h.tape.gate (h.th b hb) (by decide) (by decide) (ne (h.th b hb) (by decide)), h.ndb,
    hs.blk h.tape.gate h.row (by decide) (by decide) (ne h.row (by decide)), by rw [List.length_set]; exact h.len, fun j e m he hm => ?_, h.ndc, h.lo, h.ok.set i hn, hs.gate t rfl, owns_fr h.out hs.fr hn0, fun k hk hx => ?_,
    h.below.trans (hs.below h.tape.gate h.below.size (fun k hk => hk ▸ h.lo c (List.mem_of_getElem? hc)))⟩
  · rcases Nat.decEq i j with hne | rfl
    · rw [List.getElem?_set_ne hne] at hm
      refine hs.blk h.tape.gate (h.cell j e m he hm) (by decide) (by decide) (fun e2 => hne ?_)
      subst e2
      obtain ⟨a1, a2⟩ := List.getElem?_eq_some_iff.1 hc
      obtain ⟨b1, b2⟩ := List.getElem?_eq_some_iff.1 he
      exact (List.getElem_inj h.ndc).1 (a2.trans b2.symm)
    · rw [List.getElem?_set_self hi] at hm
      cases hm
      rw [hc] at he
      cases he
      exact hb
  · rcases hs.new k (gfoot_some.2 hx) with h1 | h1
    · exact h.apart k hk (gfoot_some.1 h1)
    · have := (World.ownsRow.lt h.out k hk).2; omega
theorem IdM.same (h : IdM w0 ba g g2 t bs cs d ks ans ov w) {i : Nat} (hi : i < d.length) (hs : StepI w0.heap.size (some t) w w1 ks' (fun _ => False)) : IdM w0 ba g g2 t bs cs d ks' ans ov w1 := by
  obtain ⟨c, n, hc, hd, hb, hn⟩ := h.at_ hi
  have h1 := h.act hi hc hn (hs.mono (fun _ _ x => x.elim)) (hs.blk h.tape.gate hb (by decide) (by decide) id)
  obtain ⟨a1, a2⟩ := List.getElem?_eq_some_iff.1 hd
  rwa [← a2, List.set_getElem_self] at h1
theorem IdM.more (h : IdM w0 ba g g2 t bs cs d ks ans ov w) (hb : Below w.heap.size w w1) : IdM w0 ba g g2 t bs cs d ks ans ov w1 := by
  have hf := Fr.of_below0 (S := fun _ => False) hb
  have hs := h.tape.gate.below0 hb (fun _ => False)
  refine ⟨hf.blk h.box id, hf.blk h.all id, fun b hb => hf.blk (h.th b hb) id, h.ndb, hf.blk h.row id, h.len, fun i c n h1 h2 => hf.blk (h.cell i c n h1 h2) id, h.ndc, h.lo, h.ok, hs.gate t rfl, owns_fr h.out hf (fun _ _ => id), fun k hk hx => ?_, h.below.trans (hb.mono h.below.size)⟩
  rcases hs.new k (gfoot_some.2 hx) with h1 | h1
  · exact h.apart k hk (gfoot_some.1 h1)
  · have := (World.ownsRow.lt h.out k hk).2; omega
/-- An answer more. -/
theorem IdM.push (h : IdM w0 ba g g2 t bs cs d ks ans ov w) (hg : w.grownBy w1 ov.ownBlock) {n : Int} (ho : w1.ownsRow w0.heap.size TII 1 v' (ans.length + 1) (ans.map (Value.int .i64) ++ [.int .i64 n]))
    (hat : v'.ownBlock = ov.ownBlock ∨ ∃ b, v'.ownBlock = some b ∧ w.heap.size ≤ b) : IdM w0 ba g g2 t bs cs d ks (ans ++ [n]) v' w1 := by
  have hf := Fr.of_grown hg
  have hs := GAt.fr (S := fun k => some k = ov.ownBlock) h.tape.gate hf (fun k hk e => h.apart k e.symm (gfoot_some.1 hk))
  have ne : ∀ {k T : Nat} {ys : List Value}, Blk w k T ys → T ≠ TII → ¬ some k = ov.ownBlock := fun hk hT e => by
    obtain ⟨zs, hz⟩ := owns_typed h.out _ e.symm
    exact hT (hk.inj hz).1
  refine ⟨hf.blk h.box (ne h.box (by decide)), hf.blk h.all (ne h.all (by decide)), fun b hb => hf.blk (h.th b hb) (ne (h.th b hb) (by decide)), h.ndb, hf.blk h.row (ne h.row (by decide)), h.len, fun i c n h1 h2 => hf.blk (h.cell i c n h1 h2) (ne (h.cell i c n h1 h2) (by decide)), h.ndc, h.lo, h.ok,
    hs.gate t rfl, by simpa using ho, fun k hk hx => ?_, h.below.trans (hf.below h.below.size (fun k hk => (World.ownsRow.lt h.out k hk.symm).1))⟩
  have hx' : TFoot w t k := by
    rcases (((h.tape.gate) t rfl).fr hf (fun k hk e => h.apart k e.symm hk)).2 k with ⟨h1, _⟩
    exact h1 hx
  rcases hat with hat | ⟨c, hc, hle⟩
  · exact h.apart k (hat ▸ hk) hx'
  · rw [hc] at hk
    cases hk
    have := (h.tape.foot hx').2.1
    omega
end
/-- While the things are made. -/
structure Mk1 (w3 : World) (g ba T : Nat) (bs : List Nat) (w : World) : Prop where
  all : Blk w g TPT ((bs.map fun b => pv (some b)) ++ List.replicate (T - bs.length) (.pointer none))
  th : ∀ b ∈ bs, Blk w b TTH [.int .i64 0]
  nd : bs.Nodup
  box : Blk w ba TAT [.slice (some ⟨g, 0, none⟩) T T]
  below : Below w3.heap.size w3 w
  g3 : w3.heap.size ≤ g
theorem row_next {l : List Nat} {T b : Nat} (h : l.length < T) : ((l.map fun b => pv (some b)) ++ List.replicate (T - l.length) (Value.pointer none)).set l.length (pv (some b)) = ((l ++ [b]).map fun b => pv (some b)) ++ List.replicate (T - (l ++ [b]).length) (Value.pointer none) := by
  rw [List.set_append_right _ _ (by simp), show T - l.length = (T - (l ++ [b]).length) + 1 by simp; omega, List.replicate_succ]
  simp
theorem nodup_snoc {l : List Nat} {b : Nat} (h : l.Nodup) (hb : ∀ x ∈ l, x < b) : (l ++ [b]).Nodup := by
  rw [List.nodup_append]
  exact ⟨h, by simp, fun a ha c hc => by simp at hc; have := hb a ha; omega⟩
section
variable {w3 w w1 : World} {g ba T b : Nat} {bs : List Nat}
theorem Mk1.next (h : Mk1 w3 g ba T bs w) (hlt : bs.length < T) : Mk1 w3 g ba T (bs ++ [w.heap.size]) ((w.alloc (.cells [.int .i64 0].toArray TTH)).setCell ⟨g, bs.length, none⟩ (pv (some w.heap.size))) := by
  have hg := (h.all.alloc (.cells [.int .i64 0].toArray TTH)).set bs.length (pv (some w.heap.size))
  rw [row_next hlt] at hg
  have ne : ∀ {k : Nat} {T' : Nat} {ys : List Value}, Blk w k T' ys → T' ≠ TPT → k ≠ g := fun hk hT e => by
    subst e
    exact hT (hk.inj h.all).1
  refine ⟨hg, fun b hb => ?_, nodup_snoc h.nd (fun x hx => (h.th x hx).lt), (h.box.alloc _).other _ _ (ne h.box (by decide)), ?_, h.g3⟩
  · rcases List.mem_append.1 hb with hb | hb
    · exact ((h.th b hb).alloc _).other _ _ (ne (h.th b hb) (by decide))
    · simp at hb
      subst hb
      exact (Blk.new w TTH [.int .i64 0]).other _ _ (fun e => by have := h.all.lt; simp at e; omega)
  · exact (h.below.alloc h.below.size _).trans ((Fr.refl _ (fun k => k = g)).setCell ⟨g, bs.length, none⟩ (pv (some w.heap.size)) (fun _ => rfl) |>.below (B := w3.heap.size) (by have := h.below.size; simp; omega) (fun k hk => hk ▸ h.g3))
end
/-- While the cells are made. -/
structure Mk2 (w6 : World) (g2 : Nat) (bs : List Nat) (xs : List Int) (cs : List Nat) (w : World) : Prop where
  row : Blk w g2 TPC ((cs.map fun c => pv (some c)) ++ List.replicate (xs.length - cs.length) (.pointer none))
  cell : ∀ (i c : Nat) (n : Int), cs[i]? = some c → xs[i]? = some n → Blk w c TCT [pv (thOf bs n)]
  nd : cs.Nodup
  lo : ∀ c ∈ cs, w6.heap.size ≤ c ∧ c < w.heap.size
  below : Below w6.heap.size w6 w
  g6 : w6.heap.size ≤ g2
theorem Mk2.next {w6 w w1 : World} {g2 b : Nat} {bs cs : List Nat} {xs : List Int} {n : Int} (h : Mk2 w6 g2 bs xs cs w) (hlt : cs.length < xs.length) (hn : xs[cs.length]? = some n) (hb : Below w.heap.size w w1) (hle : w.heap.size ≤ b) (hbb : Blk w1 b TCT [pv (thOf bs n)]) :
    Mk2 w6 g2 bs xs (cs ++ [b]) (w1.setCell ⟨g2, cs.length, none⟩ (pv (some b))) := by
  have hf := Fr.of_below0 (S := fun _ => False) hb
  have hr1 := hf.blk h.row id
  have hg := hr1.set cs.length (pv (some b))
  rw [row_next hlt] at hg
  have ne : ∀ {k : Nat} {T' : Nat} {ys : List Value}, Blk w1 k T' ys → T' ≠ TPC → k ≠ g2 := fun hk hT e => by
    subst e
    exact hT (hk.inj hr1).1
  have hs : w.heap.size ≤ w1.heap.size := hb.size
  refine ⟨hg, fun i c m hc hm => ?_, nodup_snoc h.nd (fun x hx => by have := (h.lo x hx).2; omega), fun c hc => ?_, ?_, h.g6⟩
  · rcases Nat.lt_or_ge i cs.length with hi | hi
    · rw [List.getElem?_append_left hi] at hc
      have h1 := hf.blk (h.cell i c m hc hm) id
      exact h1.other _ _ (ne h1 (by decide))
    · have hi2 := (List.getElem?_eq_some_iff.1 hc).1
      have : i = cs.length := by simp at hi2; omega
      subst this
      rw [hn] at hm
      cases hm
      simp at hc
      subst hc
      exact hbb.other _ _ (ne hbb (by decide))
  · simp only [World.setCell, Array.size_modify]
    rcases List.mem_append.1 hc with hc | hc
    · have := h.lo c hc; omega
    · simp at hc; subst hc; have := hbb.lt; have := h.below.size; omega
  · exact (h.below.trans (hb.mono h.below.size)).trans ((Fr.refl _ (fun k => k = g2)).setCell ⟨g2, cs.length, none⟩ (pv (some b)) (fun _ => rfl) |>.below (B := w6.heap.size) (by have := h.below.size; omega) (fun k hk => hk ▸ h.g6))
theorem own_weaken {w : World} {B B' e s n : Nat} {v : Value} {us : List Value} (h : w.ownsRow B' e s v n us) (hB : B ≤ B') : w.ownsRow B e s v n us := by
  refine ⟨h.1, ?_⟩
  rcases h.2 with h0 | ⟨g, cap, cur, e1, h1, h2⟩
  · exact .inl h0
  · exact .inr ⟨g, cap, cur, e1, Nat.le_trans hB h1, h2⟩
theorem TapeI.lower {w : World} {B B' t : Nat} {ks : List Int} (h : TapeI w B' t ks) (hB : B ≤ B') : TapeI w B t ks := by
  obtain ⟨v, h1, h2, h3, h4⟩ := h
  exact ⟨v, Nat.le_trans hB h1, h2, own_weaken h3 hB, h4⟩
end Go.Proofs.Ytoeaoeekjabaaaa
