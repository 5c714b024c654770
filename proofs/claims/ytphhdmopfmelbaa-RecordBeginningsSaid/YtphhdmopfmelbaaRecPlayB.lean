/- record: NewTape, Kinds; what holds while Play goes. -/
import Derived.Test.YtphhdmopfmelbaaRecPlayA
import Derived.Test.YtphhdmopfmelbaaRecWorldB
namespace Go.Proofs.Ytphhdmopfmelbaa
open Go.RowKit Go.Proofs.YtphhdmopfmelbaaW.PrintWords
set_option linter.unusedVariables false
set_option linter.unusedSimpArgs false

set_option maxHeartbeats 400000 in
theorem tape_new (w : World) : Calls Try.prog 24 #[] w fun e w' => ∃ t, e = .returned (.pointer (some ⟨t, 0, none⟩)) ∧ TapeI w' w.heap.size t [] ∧ Below w.heap.size w w' := by
  have hb := Blk.new w 102 [.slice none 0 0]
  have H : TapeI (w.alloc (.cells #[.slice none 0 0] 102)) w.heap.size w.heap.size [] ∧ Below w.heap.size w (w.alloc (.cells #[.slice none 0 0] 102)) :=
    ⟨⟨.slice none 0 0, Nat.le_refl _, hb, World.ownsRow_nil _ _ _ _, by simp [Value.ownBlock]⟩, (Below.refl _ _).alloc (Nat.le_refl _) _⟩
  have H' := Lib.hid H
  clear hb H
  go_enter Try.func24, Try.ntmps24
  go_wp2
  go_ret
  exact ⟨_, rfl, H'.out⟩
set_option maxHeartbeats 400000 in
theorem tape_kinds (w : World) (B t : Nat) (ks : List Int) (h : TapeI w B t ks) (hl : ks.length ≤ 1000000000) :
    Calls Try.prog 26 #[.pointer (some ⟨t, 0, none⟩)] w fun e w' => ∃ v, e = .returned v ∧ w'.ownsRow w.heap.size TII 1 v ks.length (ks.map (Value.int .i64)) ∧ Below w.heap.size w w' := by
  obtain ⟨v, hB, hb, ho, hne⟩ := h
  obtain ⟨A, c, hv, hr, _⟩ := owns_slice ho
  have hnil : A = none → ks.length = 0 ∧ c = 0 := fun e => by
    subst e
    rcases ho.2 with ⟨h1, h2⟩ | ⟨g, cap, cur, h1, _⟩
    · rw [hv] at h1
      exact ⟨h2, (Value.slice.inj h1).2.2⟩
    · rw [hv] at h1
      exact absurd (Value.slice.inj h1).1 (by simp)
  have hc : w.cell? ⟨t, 0, none⟩ = some (.slice A ks.length c) := by rw [hb.cell 0, hv]; rfl
  have HC := Lib.hid (clone_any_int A ks.length c _ w hnil hr (by intro u hu; obtain ⟨n, _, rfl⟩ := List.mem_map.1 hu; rfl) (by omega))
  refine calls_hide fun Q HQ => ?_
  have HQ' := Lib.hid HQ
  clear HQ ho hv hr hnil hb
  go_enter Try.func26, Try.ntmps26
  go_wp2_with fail
  refine HC.out.mono ?_
  rintro e w1 ⟨A', c', rfl, h1, h2, h3, h4⟩
  have H1 := Lib.hid h1
  have H4 := Lib.hid h4
  clear h1 h2 h3 h4 HC
  go_wp2
  exact HQ'.out _ _ ⟨_, rfl, H1.out, H4.out⟩

section
variable {d d' : WD} {B B' m t : Nat} {w w' w0 w1 : World} {R : Nat → Option RecO} {X : Nat → Option ScxO} {rs fs xs : List Nat} {v1 v2 v3 ov v' : Value} {S : Nat → Prop} {ks ks' ans : List Int}
theorem LiveAt.types (h : LiveAt d B m w R X rs fs xs v1 v2 v3) (hf : Fr w w' S) (hS : ∀ k, S k → ∃ T ys, Blk w k T ys ∧ T ≠ TLV ∧ T ≠ TPR ∧ T ≠ TPX ∧ T ≠ 178 ∧ T ≠ 170 ∧ T ≠ 152) : LiveAt d B m w' R X rs fs xs v1 v2 v3 :=
  ⟨h.hr, h.hx, h.made.types hf (fun k hk => by obtain ⟨T, ys, hb, h1, h2, h3, _⟩ := hS k hk; exact ⟨T, ys, hb, h1, h2, h3⟩), h.stage.rep' (h.stage.rep.types hf (fun k hk => by obtain ⟨T, ys, hb, _, _, _, h1, h2, h3⟩ := hS k hk; exact ⟨T, ys, hb, h1, h2, h3⟩)), h.hm⟩
theorem LiveAt.lower (h : LiveAt d B' m w R X rs fs xs v1 v2 v3) (hB : B ≤ B') : LiveAt d B m w R X rs fs xs v1 v2 v3 :=
  ⟨h.hr, h.hx, ⟨h.made.blk, own_weaken h.made.o1 hB, own_weaken h.made.o2 hB, own_weaken h.made.o3 hB, h.made.ne⟩,
    ⟨h.stage.rep, h.stage.ndr, h.stage.ndx, h.stage.len, fun i b hb => by obtain ⟨fb, h1, h2⟩ := h.stage.r i b hb; exact ⟨fb, h1, Nat.le_trans hB h2⟩, h.stage.x, h.stage.f, fun b hb => Nat.le_trans hB (h.stage.lo b hb)⟩, Nat.le_trans hB h.hm⟩
theorem TapeI.lower (h : TapeI w B' t ks) (hB : B ≤ B') : TapeI w B t ks := by
  obtain ⟨v, h1, h2, h3, h4⟩ := h
  exact ⟨v, Nat.le_trans hB h1, h2, own_weaken h3 hB, h4⟩
theorem TapeI.gate (h : TapeI w B t ks) : GAtI w B (some t) ks := fun t' e => by cases e; exact h

/-- What Play holds in its second loop. -/
structure PI (w0 : World) (d : WD) (ks ans : List Int) (m t : Nat) (rs fs xs : List Nat) (v1 v2 v3 ov : Value) (w : World) : Prop where
  live : ∃ R X, LiveAt d w0.heap.size m w R X rs fs xs v1 v2 v3
  tape : TapeI w w0.heap.size t ks
  out : w.ownsRow w0.heap.size TII 1 ov ans.length (ans.map (Value.int .i64))
  apart : ∀ k, ov.ownBlock = some k → ¬ TFoot w t k
  below : Below w0.heap.size w0 w
  res : Blk w (w0.heap.size + 1) TWD [.slice none 0 0, .slice none 0 0, .slice none 0 0, .slice none 0 0, .slice none 0 0]
theorem gfoot_some {w : World} {t k : Nat} : GFoot w (some t) k ↔ TFoot w t k := ⟨fun ⟨t', e, h⟩ => by cases e; exact h, fun h => ⟨t, rfl, h⟩⟩
/-- The gate has been passed, things have turned. -/
theorem PI.act (h : PI w0 d ks ans m t rs fs xs v1 v2 v3 ov w) (hs : StepI w0.heap.size (some t) w w1 ks' (Thing w0.heap.size w)) (hl : ∃ R X, LiveAt d' w0.heap.size m w1 R X rs fs xs v1 v2 v3) : PI w0 d' ks' ans m t rs fs xs v1 v2 v3 ov w1 := by
  have hn : ∀ k, ov.ownBlock = some k → ¬ (GFoot w (some t) k ∨ Thing w0.heap.size w k) := fun k hk hx => by
    rcases hx with hx | ⟨_, T, ys, hb, hT⟩
    · exact h.apart k hk (gfoot_some.1 hx)
    · obtain ⟨c, hc⟩ := owns_typed h.out k hk
      have := (hb.inj hc).1
      rcases hT with rfl | rfl | rfl <;> exact absurd this (by decide)
  refine ⟨hl, hs.gate t rfl, owns_fr h.out hs.fr hn, fun k hk hx => ?_, h.below.trans (hs.below h.tape.gate h.below.size (fun k hk => hk.1)), hs.blk h.tape.gate h.res (by decide) (by decide) (fun ⟨_, T, ys, hb, hT⟩ => ?_)⟩
  · rcases hs.new k (gfoot_some.2 hx) with h1 | h1
    · exact h.apart k hk (gfoot_some.1 h1)
    · have := (World.ownsRow.lt h.out k hk).2; omega
  · have := (hb.inj h.res).1
    rcases hT with rfl | rfl | rfl <;> exact absurd this (by decide)
theorem PI.more (h : PI w0 d ks ans m t rs fs xs v1 v2 v3 ov w) (hb : Below w.heap.size w w1) : PI w0 d ks ans m t rs fs xs v1 v2 v3 ov w1 := by
  have hs := (gstep_below h.tape.gate hb)
  obtain ⟨R, X, hl⟩ := h.live
  refine ⟨⟨R, X, hl.below hb⟩, hs.gate t rfl, owns_fr h.out (Fr.of_below0 (S := fun _ => False) hb) (fun _ _ => id), fun k hk hx => ?_, h.below.trans (hb.mono h.below.size), (Fr.of_below0 (S := fun _ => False) hb).blk h.res id⟩
  rcases hs.new k (gfoot_some.2 hx) with h1 | h1
  · exact h.apart k hk (gfoot_some.1 h1)
  · have := (World.ownsRow.lt h.out k hk).2; omega
/-- An answer more. -/
theorem PI.push (h : PI w0 d ks ans m t rs fs xs v1 v2 v3 ov w) (hg : w.grownBy w1 ov.ownBlock) {n : Int} (ho : w1.ownsRow w0.heap.size TII 1 v' (ans.length + 1) (ans.map (Value.int .i64) ++ [.int .i64 n]))
    (hat : v'.ownBlock = ov.ownBlock ∨ ∃ b, v'.ownBlock = some b ∧ w.heap.size ≤ b) : PI w0 d ks (ans ++ [n]) m t rs fs xs v1 v2 v3 v' w1 := by
  have hf := Fr.of_grown hg
  have hs := GAt.fr (S := fun k => some k = ov.ownBlock) h.tape.gate hf (fun k hk e => h.apart k e.symm (gfoot_some.1 hk))
  obtain ⟨R, X, hl⟩ := h.live
  have hT : ∀ k, some k = ov.ownBlock → ∃ ys, Blk w k TII ys := fun k hk => owns_typed h.out k hk.symm
  refine ⟨⟨R, X, hl.types hf (fun k hk => ?_)⟩, hs.gate t rfl, by simpa using ho, fun k hk hx => ?_, h.below.trans (hf.below h.below.size (fun k hk => (World.ownsRow.lt h.out k hk.symm).1)), hf.blk h.res (fun e => ?_)⟩
  · obtain ⟨ys, hb⟩ := hT k hk
    exact ⟨_, ys, hb, by decide, by decide, by decide, by decide, by decide, by decide⟩
  · have hx' : TFoot w t k := by
      rcases hs.new k (gfoot_some.2 hx) with h1 | h1
      · exact gfoot_some.1 h1
      · obtain ⟨v, hB, hb, ho2, hne⟩ := hs.gate t rfl
        -- a block of the tape's behind the append stood before it
        exact absurd h1 (by
          have := (h.tape.gate)
          rcases hx with rfl | ⟨u, hu, hk2⟩
          · obtain ⟨_, _, hb0, _, _⟩ := h.tape
            have := hb0.lt; omega
          · obtain ⟨u0, _, hb0, ho0, _⟩ := h.tape
            have hbt := hf.blk hb0 (fun e => h.apart t e.symm (.inl rfl))
            rw [hbt.cell 0] at hu
            have : u0 = u := by simpa using hu
            subst this
            have := (World.ownsRow.lt ho0 k hk2).2; omega)
    rcases own_new hat hk with h1 | h1
    · exact h.apart k h1 hx'
    · have := (h.tape.gate.foot (gfoot_some.2 hx')).2.1; omega
  · obtain ⟨ys, hb⟩ := hT _ e
    exact absurd (hb.inj h.res).1 (by decide)
end
end Go.Proofs.Ytphhdmopfmelbaa
