/- Joined texts: CallsA CallsB CallsC CallsD Law12G. -/
import Derived.Test.YtphhdmopfmelbaaM5
import Derived.Test.YtphhdmopfmelbaaM7

/- larchlaw12: what calls holds, and each of its calls as a step. Written by p_cs.py. -/
namespace Go.Proofs.Ytphhdmopfmelbaa
open Go.RowKit Go.Proofs.YtphhdmopfmelbaaW.PrintWords
set_option linter.unusedVariables false
set_option linter.unusedSimpArgs false

abbrev TRt : Nat := 124
abbrev TCt : Nat := 191
abbrev TXt : Nat := 141
abbrev TPt : Nat := 103
abbrev TQt : Nat := 109
abbrev ptr (b : Nat) : Value := .pointer (some ⟨b, 0, none⟩)
/-- What 'calls' holds: three records, their three first infos, its own SCX-record, if it stands. -/
structure CS (B : Nat) (g : Option Nat) (l t r f o m : Nat) (w0 : World) (ks : List Int) (oL oT oR : RecO) (sc : Option (Nat × ScxO)) (w : World) : Prop where
  rep : ∃ R X, RepL12thing w R X ∧ R l = some oL ∧ R t = some oT ∧ R r = some oR ∧ X f = some firstO ∧ X o = some firstO ∧ X m = some firstO ∧ ∀ p, sc = some p → X p.1 = some p.2
  row : ∀ p, sc = some p → w.ownsRow B TPt 1 p.2.sv 2 [ptr r, ptr l] ∧ w.ownsRow B TQt 1 p.2.si 2 [ptr m, ptr f] ∧ w.ownsRow B TBB 1 p.2.sf 2 [.bool false, .bool true]
  gate : GAtI w B g ks
  lo : B ≤ w.heap.size
  old : Below B w0 w
  d1 : l ≠ t ∧ l ≠ r ∧ t ≠ r
  d2 : f ≠ o ∧ f ≠ m ∧ o ≠ m
  d3 : ∀ p, sc = some p → p.1 ≠ f ∧ p.1 ≠ o ∧ p.1 ≠ m ∧ B ≤ p.1
  hi : B ≤ l ∧ B ≤ t ∧ B ≤ r ∧ B ≤ oR.fb
  fl : oR.fields.length = 3
section
variable {B : Nat} {g : Option Nat} {l t r f o m : Nat} {w0 w w' : World} {ks ks' : List Int} {oL oT oR oL' oT' oR' : RecO} {sc sc' : Option (Nat × ScxO)}
theorem CS.to (h : CS B g l t r f o m w0 ks oL oT oR sc w) {S : Nat → Prop} (hs : StepI B g w w' ks' S) (hS : ∀ k, S k → B ≤ k ∧ ∃ T ys, Blk w k T ys ∧ (T = TRt ∨ T = TCt ∨ T = TXt)) {R' : Nat → Option RecO} {X' : Nat → Option ScxO} (hp : RepL12thing w' R' X')
    (hL : R' l = some oL') (hT : R' t = some oT') (hR : R' r = some oR') (hfb : oR'.fb = oR.fb) (hfl : oR'.fields.length = 3) (hf : X' f = some firstO) (ho : X' o = some firstO) (hm : X' m = some firstO) (hsc : ∀ p, sc' = some p → X' p.1 = some p.2 ∧ ∃ q, sc = some q ∧ q.1 = p.1 ∧ q.2.sv = p.2.sv ∧ q.2.si = p.2.si ∧ q.2.sf = p.2.sf) :
    CS B g l t r f o m w0 ks' oL' oT' oR' sc' w' := by
  have hrow : ∀ {e n : Nat} {v : Value} {us : List Value}, w.ownsRow B e 1 v n us → e ≠ TRt → e ≠ TCt → e ≠ TXt → e ≠ TT → e ≠ ti → w'.ownsRow B e 1 v n us := fun hw e1 e2 e3 e4 e5 => owns_fr hw hs.fr (fun k hk hx => by
    obtain ⟨c, hc⟩ := owns_typed hw k hk
    rcases hx with hx | hx
    · obtain ⟨_, _, T, cs, hT, hb⟩ := h.gate.foot hx
      have := (hc.inj hb).1
      rcases hT with rfl | rfl
      · exact e4 this
      · exact e5 this
    · obtain ⟨_, T, ys, hb, hT⟩ := hS k hx
      have := (hc.inj hb).1
      rcases hT with rfl | rfl | rfl
      · exact e1 this
      · exact e2 this
      · exact e3 this)
  have hb := hs.below h.gate h.lo (fun k hk => (hS k hk).1)
  refine ⟨⟨R', X', hp, hL, hT, hR, hf, ho, hm, fun p e => (hsc p e).1⟩, fun p e => ?_, hs.gate, Nat.le_trans h.lo hs.fr.size, h.old.trans hb, h.d1, h.d2, fun p e => ?_, by rw [hfb]; exact h.hi, hfl⟩
  · obtain ⟨_, q, hq, e1, e2, e3, e4⟩ := hsc p e
    obtain ⟨a, b, c⟩ := h.row q hq
    rw [← e2, ← e3, ← e4]
    exact ⟨hrow a (by decide) (by decide) (by decide) (by decide) (by decide), hrow b (by decide) (by decide) (by decide) (by decide) (by decide), hrow c (by decide) (by decide) (by decide) (by decide) (by decide)⟩
  · obtain ⟨_, q, hq, e1, _⟩ := hsc p e
    rw [← e1]; exact h.d3 q hq
theorem CS.to0 (h : CS B g l t r f o m w0 ks oL oT oR sc w) (hs : StepI B g w w' ks' (fun _ => False)) {R : Nat → Option RecO} {X : Nat → Option ScxO} (hp : RepL12thing w' R X)
    (h0 : R l = some oL ∧ R t = some oT ∧ R r = some oR ∧ X f = some firstO ∧ X o = some firstO ∧ X m = some firstO ∧ ∀ p, sc = some p → X p.1 = some p.2) : CS B g l t r f o m w0 ks' oL oT oR sc w' :=
  h.to hs (fun _ k => k.elim) hp h0.1 h0.2.1 h0.2.2.1 rfl h.fl h0.2.2.2.1 h0.2.2.2.2.1 h0.2.2.2.2.2.1 (fun p e => ⟨h0.2.2.2.2.2.2 p e, p, e, rfl, rfl, rfl, rfl⟩)

theorem CS.get (h : CS B g l t r f o m w0 ks oL oT oR sc w) (hl : ks.length ≤ 1000) (i : Int) (i0 : 0 ≤ i) (i1 : i < 3) :
    Calls Try.prog 50 #[ptr r, gvI g, .int .i64 i] w fun e w' => e = .returned (pv (oR.fields.getD i.toNat none)) ∧ CS B g l t r f o m w0 (ks ++ [1]) oL oT oR sc w' := by
  obtain ⟨R, X, hR, h1, h2, h3, h4, h5, h6, h7⟩ := h.rep
  refine (get_L12thing B g ks R X w hR h.gate h.lo (by omega) r oR h3 i i0 (by rw [h.fl]; exact i1)).mono ?_
  rintro e w' ⟨rfl, hs, hp⟩
  exact ⟨rfl, h.to0 hs hp ⟨h1, h2, h3, h4, h5, h6, h7⟩⟩
theorem CS.info_l (h : CS B g l t r f o m w0 ks oL oT oR sc w) (hl : ks.length ≤ 1000) :
    Calls Try.prog 52 #[ptr l, gvI g] w fun e w' => e = .returned (pv oL.info) ∧ CS B g l t r f o m w0 (ks ++ [1]) oL oT oR sc w' := by
  obtain ⟨R, X, hR, h1, h2, h3, h4, h5, h6, h7⟩ := h.rep
  refine (info_L12thing B g ks R X w hR h.gate h.lo (by omega) l oL h1).mono ?_
  rintro e w' ⟨rfl, hs, hp⟩
  exact ⟨rfl, h.to0 hs hp ⟨h1, h2, h3, h4, h5, h6, h7⟩⟩
theorem CS.marked_l (h : CS B g l t r f o m w0 ks oL oT oR sc w) (hl : ks.length ≤ 1000) :
    Calls Try.prog 51 #[ptr l, gvI g] w fun e w' => e = .returned (.bool oL.mark) ∧ CS B g l t r f o m w0 (ks ++ [1]) oL oT oR sc w' := by
  obtain ⟨R, X, hR, h1, h2, h3, h4, h5, h6, h7⟩ := h.rep
  refine (marked_L12thing B g ks R X w hR h.gate h.lo (by omega) l oL h1).mono ?_
  rintro e w' ⟨rfl, hs, hp⟩
  exact ⟨rfl, h.to0 hs hp ⟨h1, h2, h3, h4, h5, h6, h7⟩⟩
theorem CS.info_t (h : CS B g l t r f o m w0 ks oL oT oR sc w) (hl : ks.length ≤ 1000) :
    Calls Try.prog 52 #[ptr t, gvI g] w fun e w' => e = .returned (pv oT.info) ∧ CS B g l t r f o m w0 (ks ++ [1]) oL oT oR sc w' := by
  obtain ⟨R, X, hR, h1, h2, h3, h4, h5, h6, h7⟩ := h.rep
  refine (info_L12thing B g ks R X w hR h.gate h.lo (by omega) t oT h2).mono ?_
  rintro e w' ⟨rfl, hs, hp⟩
  exact ⟨rfl, h.to0 hs hp ⟨h1, h2, h3, h4, h5, h6, h7⟩⟩
theorem CS.info_r (h : CS B g l t r f o m w0 ks oL oT oR sc w) (hl : ks.length ≤ 1000) :
    Calls Try.prog 52 #[ptr r, gvI g] w fun e w' => e = .returned (pv oR.info) ∧ CS B g l t r f o m w0 (ks ++ [1]) oL oT oR sc w' := by
  obtain ⟨R, X, hR, h1, h2, h3, h4, h5, h6, h7⟩ := h.rep
  refine (info_L12thing B g ks R X w hR h.gate h.lo (by omega) r oR h3).mono ?_
  rintro e w' ⟨rfl, hs, hp⟩
  exact ⟨rfl, h.to0 hs hp ⟨h1, h2, h3, h4, h5, h6, h7⟩⟩
theorem CS.marked_r (h : CS B g l t r f o m w0 ks oL oT oR sc w) (hl : ks.length ≤ 1000) :
    Calls Try.prog 51 #[ptr r, gvI g] w fun e w' => e = .returned (.bool oR.mark) ∧ CS B g l t r f o m w0 (ks ++ [1]) oL oT oR sc w' := by
  obtain ⟨R, X, hR, h1, h2, h3, h4, h5, h6, h7⟩ := h.rep
  refine (marked_L12thing B g ks R X w hR h.gate h.lo (by omega) r oR h3).mono ?_
  rintro e w' ⟨rfl, hs, hp⟩
  exact ⟨rfl, h.to0 hs hp ⟨h1, h2, h3, h4, h5, h6, h7⟩⟩
theorem CS.state_f (h : CS B g l t r f o m w0 ks oL oT oR sc w) (hl : ks.length ≤ 1000) :
    Calls Try.prog 53 #[ptr f, gvI g] w fun e w' => e = .returned (.int .i64 2) ∧ CS B g l t r f o m w0 (ks ++ [1]) oL oT oR sc w' := by
  obtain ⟨R, X, hR, h1, h2, h3, h4, h5, h6, h7⟩ := h.rep
  refine (state_L12thing B g ks R X w hR h.gate h.lo (by omega) f firstO h4 (by decide) (by decide)).mono ?_
  rintro e w' ⟨rfl, hs, hp⟩
  exact ⟨rfl, h.to0 hs hp ⟨h1, h2, h3, h4, h5, h6, h7⟩⟩
theorem CS.state_o (h : CS B g l t r f o m w0 ks oL oT oR sc w) (hl : ks.length ≤ 1000) :
    Calls Try.prog 53 #[ptr o, gvI g] w fun e w' => e = .returned (.int .i64 2) ∧ CS B g l t r f o m w0 (ks ++ [1]) oL oT oR sc w' := by
  obtain ⟨R, X, hR, h1, h2, h3, h4, h5, h6, h7⟩ := h.rep
  refine (state_L12thing B g ks R X w hR h.gate h.lo (by omega) o firstO h5 (by decide) (by decide)).mono ?_
  rintro e w' ⟨rfl, hs, hp⟩
  exact ⟨rfl, h.to0 hs hp ⟨h1, h2, h3, h4, h5, h6, h7⟩⟩
theorem CS.allf_f (h : CS B g l t r f o m w0 ks oL oT oR sc w) (hl : ks.length ≤ 1000) :
    Calls Try.prog 54 #[ptr f, gvI g] w fun e w' => e = .returned (.bool false) ∧ CS B g l t r f o m w0 (ks ++ [1]) oL oT oR sc w' := by
  obtain ⟨R, X, hR, h1, h2, h3, h4, h5, h6, h7⟩ := h.rep
  refine (allfrozen_L12thing B g ks R X w hR h.gate h.lo (by omega) f firstO h4).mono ?_
  rintro e w' ⟨rfl, hs, hp⟩
  exact ⟨rfl, h.to0 hs hp ⟨h1, h2, h3, h4, h5, h6, h7⟩⟩
theorem CS.state_s {s : Nat} {oS : ScxO} (h : CS B g l t r f o m w0 ks oL oT oR (some (s, oS)) w) (hl : ks.length ≤ 1000) (n0 : 0 ≤ oS.state) (n1 : oS.state ≤ 1000) :
    Calls Try.prog 53 #[ptr s, gvI g] w fun e w' => e = .returned (.int .i64 oS.state) ∧ CS B g l t r f o m w0 (ks ++ [1]) oL oT oR (some (s, oS)) w' := by
  obtain ⟨R, X, hR, h1, h2, h3, h4, h5, h6, h7⟩ := h.rep
  refine (state_L12thing B g ks R X w hR h.gate h.lo (by omega) s oS (h7 _ rfl) n0 n1).mono ?_
  rintro e w' ⟨rfl, hs, hp⟩
  exact ⟨rfl, h.to0 hs hp ⟨h1, h2, h3, h4, h5, h6, h7⟩⟩
theorem CS.allf_s {s : Nat} {oS : ScxO} (h : CS B g l t r f o m w0 ks oL oT oR (some (s, oS)) w) (hl : ks.length ≤ 1000) :
    Calls Try.prog 54 #[ptr s, gvI g] w fun e w' => e = .returned (.bool oS.frozen) ∧ CS B g l t r f o m w0 (ks ++ [1]) oL oT oR (some (s, oS)) w' := by
  obtain ⟨R, X, hR, h1, h2, h3, h4, h5, h6, h7⟩ := h.rep
  refine (allfrozen_L12thing B g ks R X w hR h.gate h.lo (by omega) s oS (h7 _ rfl)).mono ?_
  rintro e w' ⟨rfl, hs, hp⟩
  exact ⟨rfl, h.to0 hs hp ⟨h1, h2, h3, h4, h5, h6, h7⟩⟩
theorem CS.swing (h : CS B g l t r f o m w0 ks oL oT oR sc w) (hl : ks.length ≤ 1000) (i : Int) (i0 : 0 ≤ i) (i1 : i < 3) (x y : Option Nat) (hx : x = none ∨ x = some l ∨ x = some t) (hy : y = none ∨ y = some l ∨ y = some t) :
    Calls Try.prog 55 #[ptr r, gvI g, .int .i64 i, pv x, pv y] w fun e w' => e = .returned (.bool (decide (oR.fields.getD i.toNat none = x))) ∧ CS B g l t r f o m w0 (ks ++ [5]) oL oT { oR with fields := if oR.fields.getD i.toNat none = x then oR.fields.set i.toNat y else oR.fields } sc w' := by
  obtain ⟨R, X, hR, h1, h2, h3, h4, h5, h6, h7⟩ := h.rep
  have ok : ∀ {x : Option Nat}, x = none ∨ x = some l ∨ x = some t → Ok R x := fun hx => by
    rcases hx with rfl | rfl | rfl
    · exact Ok.none R
    · exact Ok.of h1
    · exact Ok.of h2
  refine (swing_L12thing B g ks R X w hR h.gate h.lo (by omega) r oR h3 i i0 (by rw [h.fl]; exact i1) x y (ok hx) (ok hy)).mono ?_
  rintro e w' ⟨rfl, hs, hp⟩
  refine ⟨rfl, h.to hs (fun k hk => ?_) hp (by rw [upd_ne _ _ h.d1.2.1]; exact h1) (by rw [upd_ne _ _ h.d1.2.2]; exact h2) (upd_self _ _ _) rfl ?_ h4 h5 h6 (fun p e => ⟨h7 p e, p, e, rfl, rfl, rfl, rfl⟩)⟩
  · subst hk; exact ⟨h.hi.2.2.2, TCt, _, hR.fld r oR h3, .inr (.inl rfl)⟩
  · show (if _ then _ else _ : List (Option Nat)).length = 3
    split
    · rw [List.length_set]; exact h.fl
    · exact h.fl
theorem CS.freeze {s : Nat} {oS : ScxO} (h : CS B g l t r f o m w0 ks oL oT oR (some (s, oS)) w) (hl : ks.length ≤ 1000) (x : Nat) (hx : x = f ∨ x = o) :
    Calls Try.prog 57 #[ptr l, gvI g, ptr x, ptr s] w fun e w' => e = .returned (.bool (decide (oL.info = some x))) ∧ CS B g l t r f o m w0 (ks ++ [5]) { oL with info := if oL.info = some x then some s else oL.info } oT oR (some (s, oS)) w' := by
  obtain ⟨R, X, hR, h1, h2, h3, h4, h5, h6, h7⟩ := h.rep
  have ok : Ok X (some x) := by
    rcases hx with rfl | rfl
    · exact Ok.of h4
    · exact Ok.of h5
  refine (freeze_L12thing B g ks R X w hR h.gate h.lo (by omega) l oL h1 (some x) (some s) ok (Ok.of (h7 _ rfl))).mono ?_
  rintro e w' ⟨rfl, hs, hp⟩
  refine ⟨rfl, h.to hs (fun k hk => ?_) hp (upd_self _ _ _) (by rw [upd_ne _ _ h.d1.1.symm]; exact h2) (by rw [upd_ne _ _ h.d1.2.1.symm]; exact h3) rfl h.fl h4 h5 h6 (fun p e => ⟨h7 p e, p, e, rfl, rfl, rfl, rfl⟩)⟩
  subst hk; exact ⟨h.hi.1, TRt, _, (hR.recs k oL h1).1, .inl rfl⟩
theorem CS.mark (h : CS B g l t r f o m w0 ks oL oT oR sc w) (hl : ks.length ≤ 1000) :
    Calls Try.prog 58 #[ptr l, gvI g] w fun e w' => e = .returned (.tuple #[]) ∧ CS B g l t r f o m w0 (ks ++ [2]) { oL with mark := true } oT oR sc w' := by
  obtain ⟨R, X, hR, h1, h2, h3, h4, h5, h6, h7⟩ := h.rep
  refine (mark_L12thing B g ks R X w hR h.gate h.lo (by omega) l oL h1).mono ?_
  rintro e w' ⟨rfl, hs, hp⟩
  refine ⟨rfl, h.to hs (fun k hk => ?_) hp (upd_self _ _ _) (by rw [upd_ne _ _ h.d1.1.symm]; exact h2) (by rw [upd_ne _ _ h.d1.2.1.symm]; exact h3) rfl h.fl h4 h5 h6 (fun p e => ⟨h7 p e, p, e, rfl, rfl, rfl, rfl⟩)⟩
  subst hk; exact ⟨h.hi.1, TRt, _, (hR.recs k oL h1).1, .inl rfl⟩
theorem CS.abort {s : Nat} {oS : ScxO} (h : CS B g l t r f o m w0 ks oL oT oR (some (s, oS)) w) (hl : ks.length ≤ 1000) :
    Calls Try.prog 59 #[ptr s, gvI g] w fun e w' => e = .returned (.tuple #[]) ∧ CS B g l t r f o m w0 (ks ++ [2]) oL oT oR (some (s, { oS with state := 2 })) w' := by
  obtain ⟨R, X, hR, h1, h2, h3, h4, h5, h6, h7⟩ := h.rep
  have d := h.d3 _ rfl
  refine (abort_L12thing B g ks R X w hR h.gate h.lo (by omega) s oS (h7 _ rfl)).mono ?_
  rintro e w' ⟨rfl, hs, hp⟩
  refine ⟨rfl, h.to hs (fun k hk => ?_) hp h1 h2 h3 rfl h.fl (by rw [upd_ne _ _ d.1.symm]; exact h4) (by rw [upd_ne _ _ d.2.1.symm]; exact h5) (by rw [upd_ne _ _ d.2.2.1.symm]; exact h6) (fun p e => by cases e; exact ⟨upd_self _ _ _, _, rfl, rfl, rfl, rfl, rfl⟩)⟩
  subst hk; exact ⟨d.2.2.2, TXt, _, hR.scx k oS (h7 _ rfl), .inr (.inr rfl)⟩
theorem CS.commit {s : Nat} {oS : ScxO} (h : CS B g l t r f o m w0 ks oL oT oR (some (s, oS)) w) (hl : ks.length ≤ 1000) :
    Calls Try.prog 60 #[ptr s, gvI g] w fun e w' => e = .returned (.tuple #[]) ∧ CS B g l t r f o m w0 (ks ++ [2]) oL oT oR (some (s, { oS with state := 1 })) w' := by
  obtain ⟨R, X, hR, h1, h2, h3, h4, h5, h6, h7⟩ := h.rep
  have d := h.d3 _ rfl
  refine (commit_L12thing B g ks R X w hR h.gate h.lo (by omega) s oS (h7 _ rfl)).mono ?_
  rintro e w' ⟨rfl, hs, hp⟩
  refine ⟨rfl, h.to hs (fun k hk => ?_) hp h1 h2 h3 rfl h.fl (by rw [upd_ne _ _ d.1.symm]; exact h4) (by rw [upd_ne _ _ d.2.1.symm]; exact h5) (by rw [upd_ne _ _ d.2.2.1.symm]; exact h6) (fun p e => by cases e; exact ⟨upd_self _ _ _, _, rfl, rfl, rfl, rfl, rfl⟩)⟩
  subst hk; exact ⟨d.2.2.2, TXt, _, hR.scx k oS (h7 _ rfl), .inr (.inr rfl)⟩
theorem CS.setall {s : Nat} {oS : ScxO} (h : CS B g l t r f o m w0 ks oL oT oR (some (s, oS)) w) (hl : ks.length ≤ 1000) :
    Calls Try.prog 61 #[ptr s, gvI g] w fun e w' => e = .returned (.tuple #[]) ∧ CS B g l t r f o m w0 (ks ++ [2]) oL oT oR (some (s, { oS with frozen := true })) w' := by
  obtain ⟨R, X, hR, h1, h2, h3, h4, h5, h6, h7⟩ := h.rep
  have d := h.d3 _ rfl
  refine (setallfrozen_L12thing B g ks R X w hR h.gate h.lo (by omega) s oS (h7 _ rfl)).mono ?_
  rintro e w' ⟨rfl, hs, hp⟩
  refine ⟨rfl, h.to hs (fun k hk => ?_) hp h1 h2 h3 rfl h.fl (by rw [upd_ne _ _ d.1.symm]; exact h4) (by rw [upd_ne _ _ d.2.1.symm]; exact h5) (by rw [upd_ne _ _ d.2.2.1.symm]; exact h6) (fun p e => by cases e; exact ⟨upd_self _ _ _, _, rfl, rfl, rfl, rfl, rfl⟩)⟩
  subst hk; exact ⟨d.2.2.2, TXt, _, hR.scx k oS (h7 _ rfl), .inr (.inr rfl)⟩
end
end Go.Proofs.Ytphhdmopfmelbaa

/- larchlaw12: calls: the start, the SCX-record, what is stored besides. No walk of its own. -/
namespace Go.Proofs.Ytphhdmopfmelbaa
open Go.RowKit Go.Proofs.YtphhdmopfmelbaaW.PrintWords
set_option linter.unusedVariables false
set_option linter.unusedSimpArgs false

section
variable {B : Nat} {g : Option Nat} {l t r f o m : Nat} {w0 w w' w1 w2 w3 w4 : World} {ks ks' : List Int} {oL oT oR : RecO} {sc : Option (Nat × ScxO)}
abbrev R0 : Nat → Option RecO := fun _ => none
abbrev X0 : Nat → Option ScxO := fun _ => none
theorem CS.start (hg : GAtI w B g ks) (hB : B ≤ w.heap.size) (hb1 : Below w.heap.size w w1) (h1 : RepL12thing w1 (upd R0 l oL) (upd X0 f firstO)) (hl : w.heap.size ≤ l) (hf : w.heap.size ≤ f)
    (hb2 : Below w1.heap.size w1 w2) (h2 : RepL12thing w2 (upd (upd R0 l oL) t oT) (upd (upd X0 f firstO) o firstO)) (ht : w1.heap.size ≤ t) (ho : w1.heap.size ≤ o)
    (hb3 : Below w2.heap.size w2 w3) (hb4 : Below w3.heap.size w3 w4) (h3 : RepL12thing w4 (upd (upd (upd R0 l oL) t oT) r oR) (upd (upd (upd X0 f firstO) o firstO) m firstO)) (hr : w3.heap.size ≤ r) (hm : w3.heap.size ≤ m) (hfb : w3.heap.size ≤ oR.fb) (hfl : oR.fields.length = 3) :
    CS B g l t r f o m w ks oL oT oR none w4 := by
  have s1 := hb1.size
  have s2 := hb2.size
  have s3 := hb3.size
  have s4 := hb4.size
  have bl := (h1.recs l oL (upd_self _ _ _)).1.lt
  have bf := (h1.scx f firstO (upd_self _ _ _)).lt
  have bt := (h2.recs t oT (upd_self _ _ _)).1.lt
  have bo := (h2.scx o firstO (upd_self _ _ _)).lt
  have hb : Below w.heap.size w w4 := ((hb1.trans (hb2.mono s1)).trans (hb3.mono (by omega))).trans (hb4.mono (by omega))
  refine ⟨⟨_, _, h3, ?_, ?_, upd_self _ _ _, ?_, ?_, upd_self _ _ _, (fun p e => nomatch e)⟩, (fun p e => nomatch e), (GAt.below0 hg hb (fun _ => False)).gate, by omega, hb.mono hB, ⟨by omega, by omega, by omega⟩, ⟨by omega, by omega, by omega⟩, (fun p e => nomatch e), ⟨by omega, by omega, by omega, by omega⟩, hfl⟩
  · rw [upd_ne _ _ (by omega), upd_ne _ _ (by omega)]; exact upd_self _ _ _
  · rw [upd_ne _ _ (by omega)]; exact upd_self _ _ _
  · rw [upd_ne _ _ (by omega), upd_ne _ _ (by omega)]; exact upd_self _ _ _
  · rw [upd_ne _ _ (by omega)]; exact upd_self _ _ _
theorem CS.more (h : CS B g l t r f o m w0 ks oL oT oR sc w) (hb : Below w.heap.size w w') : CS B g l t r f o m w0 ks oL oT oR sc w' := by
  obtain ⟨R, X, hR, h0⟩ := h.rep
  exact h.to0 (GAt.below0 h.gate hb _) (hR.below hb) h0
abbrev newS (t l : Nat) (v1 v2 v3 : Value) : ScxO := ⟨v1, v2, v3, 0, 1, some t, some l, 0, false⟩
theorem CS.newscx (h : CS B g l t r f o m w0 ks oL oT oR none w) {A1 A2 A3 : Addr} {c1 c2 c3 : Nat} (hr1 : Row1 w (some A1) 2 [ptr r, ptr l]) (hr2 : Row1 w (some A2) 2 [ptr m, ptr f]) (hr3 : Row1 w (some A3) 2 [.bool false, .bool true]) :
    Calls Try.prog 56 #[.slice (some A1) 2 c1, .slice (some A2) 2 c2, .slice (some A3) 2 c3, .int .i64 0, .int .i64 1, ptr t, ptr l] w fun e w' => ∃ s v1 v2 v3, e = .returned (ptr s) ∧ Below w.heap.size w w' ∧ CS B g l t r f o m w0 ks oL oT oR (some (s, newS t l v1 v2 v3)) w' ∧
      (∀ k, v1.ownBlock = some k → w.heap.size ≤ k) ∧ (∀ k, v2.ownBlock = some k → w.heap.size ≤ k) ∧ ∀ k, v3.ownBlock = some k → w.heap.size ≤ k := by
  obtain ⟨R, X, hR, h1, h2, h3, h4, h5, h6, h7⟩ := h.rep
  refine (newscx_L12thing (some A1) 2 c1 _ (some A2) 2 c2 _ (some A3) 2 c3 _ 0 1 (some t) (some l) R X w hR hr1 hr2 hr3 (fun e => by cases e) (fun e => by cases e) (fun e => by cases e) ?_ ?_ ?_ (by decide) (by decide) (by decide)).mono ?_
  · intro u hu; simp only [List.mem_cons, List.not_mem_nil, or_false] at hu; rcases hu with rfl | rfl <;> rfl
  · intro u hu; simp only [List.mem_cons, List.not_mem_nil, or_false] at hu; rcases hu with rfl | rfl <;> rfl
  · intro u hu; simp only [List.mem_cons, List.not_mem_nil, or_false] at hu; rcases hu with rfl | rfl <;> rfl
  rintro e w' ⟨s, v1, v2, v3, rfl, hs, hb, hp, ho1, ho2, ho3⟩
  have bf := (hR.scx f firstO h4).lt
  have bo := (hR.scx o firstO h5).lt
  have bm := (hR.scx m firstO h6).lt
  have hc := h.more hb
  refine ⟨s, v1, v2, v3, rfl, hb, ⟨⟨R, _, hp, h1, h2, h3, ?_, ?_, ?_, fun p e => ?_⟩, fun p e => ?_, hc.gate, hc.lo, hc.old, h.d1, h.d2, fun p e => ?_, h.hi, h.fl⟩, fun k hk => (World.ownsRow.lt ho1 k hk).1, fun k hk => (World.ownsRow.lt ho2 k hk).1, fun k hk => (World.ownsRow.lt ho3 k hk).1⟩
  · rw [upd_ne _ _ (by omega)]; exact h4
  · rw [upd_ne _ _ (by omega)]; exact h5
  · rw [upd_ne _ _ (by omega)]; exact h6
  · cases e; exact upd_self _ _ _
  · cases e; exact ⟨own_weaken ho1 h.lo, own_weaken ho2 h.lo, own_weaken ho3 h.lo⟩
  · cases e; exact ⟨by show s ≠ f; omega, by show s ≠ o; omega, by show s ≠ m; omega, by show B ≤ s; have := h.lo; omega⟩
/-- Blocks of the statement's own lists have turned. -/
theorem CS.lists {s : Nat} {oS : ScxO} (h : CS B g l t r f o m w0 ks oL oT oR (some (s, oS)) w) {S : Nat → Prop} (hf : Fr w w' S) (hS : ∀ k, S k → B ≤ k ∧ oS.sv.ownBlock ≠ some k ∧ oS.si.ownBlock ≠ some k ∧ oS.sf.ownBlock ≠ some k ∧ ∃ T ys, Blk w k T ys ∧ (T = TPt ∨ T = TQt ∨ T = TBB)) : CS B g l t r f o m w0 ks oL oT oR (some (s, oS)) w' := by
  obtain ⟨R, X, hR, h1, h2, h3, h4, h5, h6, h7⟩ := h.rep
  have hp := hR.types hf (fun k hk => by
    obtain ⟨_, _, _, _, T, ys, hb, hT⟩ := hS k hk
    refine ⟨T, ys, hb, ?_⟩
    rcases hT with rfl | rfl | rfl <;> exact ⟨by decide, by decide, by decide⟩)
  have hgt := (GAt.fr h.gate hf (fun k hk hs => by
    obtain ⟨_, _, T, cs, hT, hb⟩ := h.gate.foot hk
    obtain ⟨_, _, _, _, T', ys, hb', hT'⟩ := hS k hs
    have := (hb.inj hb').1
    rcases hT with rfl | rfl <;> rcases hT' with rfl | rfl | rfl <;> exact absurd this (by decide))).gate
  obtain ⟨a, b, c⟩ := h.row _ rfl
  refine ⟨⟨R, X, hp, h1, h2, h3, h4, h5, h6, h7⟩, fun p e => ?_, hgt, Nat.le_trans h.lo hf.size, h.old.trans (hf.below h.lo (fun k hk => (hS k hk).1)), h.d1, h.d2, h.d3, h.hi, h.fl⟩
  cases e
  exact ⟨owns_fr a hf (fun k hk hs => (hS k hs).2.1 hk), owns_fr b hf (fun k hk hs => (hS k hs).2.2.1 hk), owns_fr c hf (fun k hk hs => (hS k hs).2.2.2.1 hk)⟩
theorem psz_R : ∃ i, Try.prog.info? TRt = some i ∧ i.size ≠ 0 := by
  obtain ⟨i, hi, hz⟩ := Option.map_eq_some_iff.1 size_RecordL12thing
  exact ⟨i, hi, by simpa using hz⟩
theorem psz_X : ∃ i, Try.prog.info? TXt = some i ∧ i.size ≠ 0 := by
  obtain ⟨i, hi, hz⟩ := Option.map_eq_some_iff.1 size_ScxL12thing
  exact ⟨i, hi, by simpa using hz⟩
/-- What the comparisons of these pointers give. -/
theorem CS.cmpR (h : CS B g l t r f o m w0 ks oL oT oR sc w) : (binOp .eql TPt (ptr l) (ptr t)).run Try.prog w = .ok (.bool false) w ∧ (binOp .neq TPt (ptr l) (ptr l)).run Try.prog w = .ok (.bool false) w ∧ (binOp .neq TPt (ptr t) (ptr t)).run Try.prog w = .ok (.bool false) w ∧ (binOp .neq TPt (ptr r) (ptr r)).run Try.prog w = .ok (.bool false) w := by
  obtain ⟨R, X, hR, h1, h2, h3, _⟩ := h.rep
  obtain ⟨i, hi, hsz⟩ := psz_R
  have kn : ∀ {b ob}, R b = some ob → Known w (some b) := fun hb x e => by cases e; exact ⟨_, _, (hR.recs _ _ hb).1⟩
  have e1 := run_eql_ptr (P := Try.prog) (w := w) (x := some l) (y := some t) Try.underlying103 hi hsz (kn h1) (kn h2)
  rw [decide_eq_false (fun e => h.d1.1 (Option.some.inj e))] at e1
  have ne : ∀ {b ob}, R b = some ob → (binOp .neq TPt (ptr b) (ptr b)).run Try.prog w = .ok (.bool false) w := fun {b ob} hb => by
    have e2 := run_neq_ptr (P := Try.prog) (w := w) (x := some b) (y := some b) Try.underlying103 hi hsz (kn hb) (kn hb)
    rwa [decide_eq_false (fun e => e rfl)] at e2
  exact ⟨e1, ne h1, ne h2, ne h3⟩
theorem CS.cmpX (h : CS B g l t r f o m w0 ks oL oT oR sc w) : (binOp .eql TQt (ptr f) (ptr o)).run Try.prog w = .ok (.bool false) w ∧ (binOp .eql TQt (ptr f) (ptr m)).run Try.prog w = .ok (.bool false) w ∧ (binOp .neq TQt (ptr f) (ptr f)).run Try.prog w = .ok (.bool false) w ∧ (binOp .neq TQt (ptr m) (ptr m)).run Try.prog w = .ok (.bool false) w := by
  obtain ⟨R, X, hR, _, _, _, h4, h5, h6, _⟩ := h.rep
  obtain ⟨i, hi, hsz⟩ := psz_X
  have kn : ∀ {b ob}, X b = some ob → Known w (some b) := fun hb x e => by cases e; exact ⟨_, _, hR.scx _ _ hb⟩
  have e1 := run_eql_ptr (P := Try.prog) (w := w) (x := some f) (y := some o) Try.underlying109 hi hsz (kn h4) (kn h5)
  rw [decide_eq_false (fun e => h.d2.1 (Option.some.inj e))] at e1
  have e2 := run_eql_ptr (P := Try.prog) (w := w) (x := some f) (y := some m) Try.underlying109 hi hsz (kn h4) (kn h6)
  rw [decide_eq_false (fun e => h.d2.2.1 (Option.some.inj e))] at e2
  have ne : ∀ {b ob}, X b = some ob → (binOp .neq TQt (ptr b) (ptr b)).run Try.prog w = .ok (.bool false) w := fun {b ob} hb => by
    have e2 := run_neq_ptr (P := Try.prog) (w := w) (x := some b) (y := some b) Try.underlying109 hi hsz (kn hb) (kn hb)
    rwa [decide_eq_false (fun e => e rfl)] at e2
  exact ⟨e1, e2, ne h4, ne h6⟩
theorem CS.cmpS {s : Nat} {oS : ScxO} (h : CS B g l t r f o m w0 ks oL oT oR (some (s, oS)) w) : (binOp .neq TQt (ptr s) (ptr s)).run Try.prog w = .ok (.bool false) w := by
  obtain ⟨R, X, hR, _, _, _, h4, h5, h6, h7⟩ := h.rep
  obtain ⟨i, hi, hsz⟩ := psz_X
  have kn : Known w (some s) := fun x e => by cases e; exact ⟨_, _, hR.scx _ _ (h7 _ rfl)⟩
  have e2 := run_neq_ptr (P := Try.prog) (w := w) (x := some s) (y := some s) Try.underlying109 hi hsz kn kn
  rwa [decide_eq_false (fun e => e rfl)] at e2
end
end Go.Proofs.Ytphhdmopfmelbaa

/- larchlaw12: calls, its swings and freezes one by one. Written by p_callsc.py. -/
namespace Go.Proofs.Ytphhdmopfmelbaa
open Go.RowKit Go.Proofs.YtphhdmopfmelbaaW.PrintWords
set_option linter.unusedVariables false
set_option linter.unusedSimpArgs false

abbrev oRr (D : List Value) (fb : Nat) (a b c : Option Nat) (m : Nat) : RecO := ⟨D, fb, [a, b, c], some m, false⟩
abbrev oLl (D : List Value) (fb : Nat) (i : Nat) (mk : Bool) : RecO := ⟨D, fb, [], some i, mk⟩
section
variable {B : Nat} {g : Option Nat} {l t r f o m fb s x : Nat} {w0 w : World} {ks : List Int} {oL oT oR : RecO} {sc : Option (Nat × ScxO)} {D : List Value} {a b c : Option Nat} {oS : ScxO} {mk : Bool}
theorem CS.swing_no (h : CS B g l t r f o m w0 ks oL oT (oRr D fb a (some l) c m) sc w) (hl : ks.length ≤ 1000) :
    Calls Try.prog 55 #[ptr r, gvI g, .int .i64 1, ptr t, .pointer none] w fun e w' => e = .returned (.bool false) ∧ CS B g l t r f o m w0 (ks ++ [5]) oL oT (oRr D fb a (some l) c m) sc w' := by
  refine (h.swing hl 1 (by decide) (by decide) (some t) (none) (.inr (.inr rfl)) (.inl rfl)).mono ?_
  rintro e w' ⟨rfl, hc⟩
  have hne : ¬ (some l = some t) := fun e => h.d1.1 (Option.some.inj e)
  change CS _ _ _ _ _ _ _ _ _ _ _ _ { oRr D fb a (some l) c m with fields := if some l = some t then _ else _ } _ _ at hc
  rw [if_neg hne] at hc
  exact ⟨by show Ending.returned (.bool (decide (some l = some t))) = _; rw [decide_eq_false hne], hc⟩
theorem CS.swing_1 (h : CS B g l t r f o m w0 ks oL oT (oRr D fb a (some l) c m) sc w) (hl : ks.length ≤ 1000) :
    Calls Try.prog 55 #[ptr r, gvI g, .int .i64 1, ptr l, ptr t] w fun e w' => e = .returned (.bool true) ∧ CS B g l t r f o m w0 (ks ++ [5]) oL oT (oRr D fb a (some t) c m) sc w' := by
  refine (h.swing hl 1 (by decide) (by decide) (some l) (some t) (.inr (.inl rfl)) (.inr (.inr rfl))).mono ?_
  rintro e w' ⟨rfl, hc⟩
  have hne : some l = some l := rfl
  change CS _ _ _ _ _ _ _ _ _ _ _ _ { oRr D fb a (some l) c m with fields := if some l = some l then _ else _ } _ _ at hc
  rw [if_pos hne] at hc
  exact ⟨by show Ending.returned (.bool (decide (some l = some l))) = _; rw [decide_eq_true hne], hc⟩
theorem CS.swing_2 (h : CS B g l t r f o m w0 ks oL oT (oRr D fb a b (some l) m) sc w) (hl : ks.length ≤ 1000) :
    Calls Try.prog 55 #[ptr r, gvI g, .int .i64 2, ptr l, .pointer none] w fun e w' => e = .returned (.bool true) ∧ CS B g l t r f o m w0 (ks ++ [5]) oL oT (oRr D fb a b none m) sc w' := by
  refine (h.swing hl 2 (by decide) (by decide) (some l) (none) (.inr (.inl rfl)) (.inl rfl)).mono ?_
  rintro e w' ⟨rfl, hc⟩
  have hne : some l = some l := rfl
  change CS _ _ _ _ _ _ _ _ _ _ _ _ { oRr D fb a b (some l) m with fields := if some l = some l then _ else _ } _ _ at hc
  rw [if_pos hne] at hc
  exact ⟨by show Ending.returned (.bool (decide (some l = some l))) = _; rw [decide_eq_true hne], hc⟩
theorem CS.freeze_no (h : CS B g l t r f o m w0 ks (oLl D fb f mk) oT oR (some (s, oS)) w) (hl : ks.length ≤ 1000) :
    Calls Try.prog 57 #[ptr l, gvI g, ptr o, ptr s] w fun e w' => e = .returned (.bool false) ∧ CS B g l t r f o m w0 (ks ++ [5]) (oLl D fb f mk) oT oR (some (s, oS)) w' := by
  refine (h.freeze hl o (.inr rfl)).mono ?_
  rintro e w' ⟨rfl, hc⟩
  have hne : ¬ (some f = some o) := fun e => h.d2.1 (Option.some.inj e)
  change CS _ _ _ _ _ _ _ _ _ _ { oLl D fb f mk with info := if some f = some o then _ else _ } _ _ _ _ at hc
  rw [if_neg hne] at hc
  exact ⟨by show Ending.returned (.bool (decide (some f = some o))) = _; rw [decide_eq_false hne], hc⟩
theorem CS.freeze_yes (h : CS B g l t r f o m w0 ks (oLl D fb f mk) oT oR (some (s, oS)) w) (hl : ks.length ≤ 1000) :
    Calls Try.prog 57 #[ptr l, gvI g, ptr f, ptr s] w fun e w' => e = .returned (.bool true) ∧ CS B g l t r f o m w0 (ks ++ [5]) (oLl D fb s mk) oT oR (some (s, oS)) w' := by
  refine (h.freeze hl f (.inl rfl)).mono ?_
  rintro e w' ⟨rfl, hc⟩
  have hne : some f = some f := rfl
  change CS _ _ _ _ _ _ _ _ _ _ { oLl D fb f mk with info := if some f = some f then _ else _ } _ _ _ _ at hc
  rw [if_pos hne] at hc
  exact ⟨by show Ending.returned (.bool (decide (some f = some f))) = _; rw [decide_eq_true hne], hc⟩
theorem CS.freeze_late (h : CS B g l t r f o m w0 ks (oLl D fb s mk) oT oR (some (s, oS)) w) (hl : ks.length ≤ 1000) :
    Calls Try.prog 57 #[ptr l, gvI g, ptr f, ptr s] w fun e w' => e = .returned (.bool false) ∧ CS B g l t r f o m w0 (ks ++ [5]) (oLl D fb s mk) oT oR (some (s, oS)) w' := by
  refine (h.freeze hl f (.inl rfl)).mono ?_
  rintro e w' ⟨rfl, hc⟩
  have hne : ¬ (some s = some f) := fun e => (h.d3 _ rfl).1 (Option.some.inj e)
  change CS _ _ _ _ _ _ _ _ _ _ { oLl D fb s mk with info := if some s = some f then _ else _ } _ _ _ _ at hc
  rw [if_neg hne] at hc
  exact ⟨by show Ending.returned (.bool (decide (some s = some f))) = _; rw [decide_eq_false hne], hc⟩
theorem CS.get0 (h : CS B g l t r f o m w0 ks oL oT (oRr D fb none b c m) sc w) (hl : ks.length ≤ 1000) :
    Calls Try.prog 50 #[ptr r, gvI g, .int .i64 0] w fun e w' => e = .returned (.pointer none) ∧ CS B g l t r f o m w0 (ks ++ [1]) oL oT (oRr D fb none b c m) sc w' := h.get hl 0 (by decide) (by decide)
theorem CS.get1 (h : CS B g l t r f o m w0 ks oL oT (oRr D fb a (some x) c m) sc w) (hl : ks.length ≤ 1000) :
    Calls Try.prog 50 #[ptr r, gvI g, .int .i64 1] w fun e w' => e = .returned (ptr x) ∧ CS B g l t r f o m w0 (ks ++ [1]) oL oT (oRr D fb a (some x) c m) sc w' := h.get hl 1 (by decide) (by decide)
theorem CS.get2 (h : CS B g l t r f o m w0 ks oL oT (oRr D fb a b (some x) m) sc w) (hl : ks.length ≤ 1000) :
    Calls Try.prog 50 #[ptr r, gvI g, .int .i64 2] w fun e w' => e = .returned (ptr x) ∧ CS B g l t r f o m w0 (ks ++ [1]) oL oT (oRr D fb a b (some x) m) sc w' := h.get hl 2 (by decide) (by decide)
theorem CS.get2n (h : CS B g l t r f o m w0 ks oL oT (oRr D fb a b none m) sc w) (hl : ks.length ≤ 1000) :
    Calls Try.prog 50 #[ptr r, gvI g, .int .i64 2] w fun e w' => e = .returned (.pointer none) ∧ CS B g l t r f o m w0 (ks ++ [1]) oL oT (oRr D fb a b none m) sc w' := h.get hl 2 (by decide) (by decide)
theorem CS.infoL (h : CS B g l t r f o m w0 ks (oLl D fb x mk) oT oR sc w) (hl : ks.length ≤ 1000) :
    Calls Try.prog 52 #[ptr l, gvI g] w fun e w' => e = .returned (ptr x) ∧ CS B g l t r f o m w0 (ks ++ [1]) (oLl D fb x mk) oT oR sc w' := h.info_l hl
theorem CS.infoT (h : CS B g l t r f o m w0 ks oL (oLl D fb x mk) oR sc w) (hl : ks.length ≤ 1000) :
    Calls Try.prog 52 #[ptr t, gvI g] w fun e w' => e = .returned (ptr x) ∧ CS B g l t r f o m w0 (ks ++ [1]) oL (oLl D fb x mk) oR sc w' := h.info_t hl
theorem CS.infoR (h : CS B g l t r f o m w0 ks oL oT (oRr D fb a b c x) sc w) (hl : ks.length ≤ 1000) :
    Calls Try.prog 52 #[ptr r, gvI g] w fun e w' => e = .returned (ptr x) ∧ CS B g l t r f o m w0 (ks ++ [1]) oL oT (oRr D fb a b c x) sc w' := h.info_r hl
theorem CS.markL (h : CS B g l t r f o m w0 ks (oLl D fb x mk) oT oR sc w) (hl : ks.length ≤ 1000) :
    Calls Try.prog 51 #[ptr l, gvI g] w fun e w' => e = .returned (.bool mk) ∧ CS B g l t r f o m w0 (ks ++ [1]) (oLl D fb x mk) oT oR sc w' := h.marked_l hl
theorem CS.markR (h : CS B g l t r f o m w0 ks oL oT (oRr D fb a b c x) sc w) (hl : ks.length ≤ 1000) :
    Calls Try.prog 51 #[ptr r, gvI g] w fun e w' => e = .returned (.bool false) ∧ CS B g l t r f o m w0 (ks ++ [1]) oL oT (oRr D fb a b c x) sc w' := h.marked_r hl
theorem CS.lenL (h : CS B g l t r f o m w0 ks (oLl D fb x mk) oT oR sc w) : Calls Try.prog 49 #[ptr l] w fun e w' => e = .returned (.int .i64 0) ∧ w = w' := by
  obtain ⟨R, X, hR, h1, _⟩ := h.rep
  exact len_L12thing R X w hR l _ h1
theorem CS.lenR (h : CS B g l t r f o m w0 ks oL oT (oRr D fb a b c x) sc w) : Calls Try.prog 49 #[ptr r] w fun e w' => e = .returned (.int .i64 3) ∧ w = w' := by
  obtain ⟨R, X, hR, _, _, h3, _⟩ := h.rep
  exact len_L12thing R X w hR r _ h3
theorem CS.cellL (h : CS B g l t r f o m w0 ks oL oT oR sc w) : Blk w l TRt oL.cells := by
  obtain ⟨R, X, hR, h1, _⟩ := h.rep
  exact (hR.recs l _ h1).1
theorem CS.cellT (h : CS B g l t r f o m w0 ks oL oT oR sc w) : Blk w t TRt oT.cells := by
  obtain ⟨R, X, hR, _, h2, _⟩ := h.rep
  exact (hR.recs t _ h2).1
theorem CS.cellR (h : CS B g l t r f o m w0 ks oL oT oR sc w) : Blk w r TRt oR.cells := by
  obtain ⟨R, X, hR, _, _, h3, _⟩ := h.rep
  exact (hR.recs r _ h3).1
theorem CS.cellF (h : CS B g l t r f o m w0 ks oL oT oR sc w) : Blk w f TXt firstO.cells := by
  obtain ⟨R, X, hR, _, _, _, h4, _⟩ := h.rep
  exact hR.scx f _ h4
theorem CS.cellS (h : CS B g l t r f o m w0 ks oL oT oR (some (s, oS)) w) : Blk w s TXt oS.cells := by
  obtain ⟨R, X, hR, _, _, _, _, _, _, h7⟩ := h.rep
  exact hR.scx s _ (h7 _ rfl)
end
end Go.Proofs.Ytphhdmopfmelbaa

/- larchlaw12: calls. Written by p_callsd.py. -/
namespace Go.Proofs.Ytphhdmopfmelbaa
open Go.RowKit Go.Proofs.YtphhdmopfmelbaaW.PrintWords
set_option linter.unusedVariables false
set_option linter.unusedSimpArgs false

abbrev leafS : ByteArray := ⟨#[108, 101, 97, 102]⟩
abbrev wantK : List Int := [1, 1, 1, 1, 1, 1, 1, 1, 1, 1, 5, 5, 1, 5, 5, 5, 1, 2, 1, 1, 2, 1, 2, 1, 2, 1, 5, 1]
set_option maxHeartbeats 4000000 in
set_option maxRecDepth 100000 in
theorem law_calls (B : Nat) (g : Option Nat) (w : World) (hg : GAtI w B g []) (hB : B ≤ w.heap.size) (N M : Int) :
    Calls Try.prog 25 #[gvI g, .int .i64 N, .int .i64 M] w fun e w' => e = .returned (.bool true) ∧ GAtI w' B g wantK ∧ Below B w w' := by
  refine calls_hide fun Q HQ => ?_
  have HQ' := Lib.hid HQ
  have HG := Lib.hid hg
  clear HQ hg
  generalize hgv : gvI g = gw
  have HGV := Lib.hid hgv
  clear hgv
  go_enter Try.func25, Try.ntmps25
  go_wp2_with fail
  refine (new_L12thing N leafS none 0 [] R0 X0 w (Rep.empty _ _ _ _ w) (Row1.nil w) (fun p hp => by simp at hp) (by decide)).mono ?_
  rintro e w1 ⟨l, fbl, f, he, hl1, hfb1, hf1, hb1, hR1⟩
  change e = .returned (ptr l) at he
  subst he
  have HR1 := Lib.hid hR1
  have HB1 := Lib.hid hb1
  have HL1 := Lib.hid (And.intro hl1 hf1)
  clear hl1 hfb1 hf1 hb1 hR1
  go_wp2_with fail
  refine (new_L12thing N leafS none 0 [] _ _ w1 HR1.out (Row1.nil w1) (fun p hp => by simp at hp) (by decide)).mono ?_
  rintro e w2 ⟨t, fbt, o, he, hl2, hfb2, hf2, hb2, hR2⟩
  change e = .returned (ptr t) at he
  subst he
  have HR2 := Lib.hid hR2
  have HB2 := Lib.hid hb2
  have HL2 := Lib.hid (And.intro hl2 hf2)
  clear hl2 hfb2 hf2 hb2 hR2
  go_wp2_with fail
  have hba := (Below.refl w2.heap.size w2).alloc (Nat.le_refl _) (.cells #[.pointer none, ptr l, ptr l] TPt)
  have HB3 := Lib.hid hba
  have HR3 := Lib.hid (HR2.out.below hba)
  have HRW := Lib.hid (Row1.of_blk (us := [none, some l, some l].map pv) (rest := []) (Blk.new w2 TPt [.pointer none, ptr l, ptr l]))
  have hok : ∀ p ∈ [none, some l, some l], Ok (upd (upd R0 l (oLl [.int .i64 N, .string leafS] fbl f false)) t (oLl [.int .i64 N, .string leafS] fbt o false)) p := fun p hp => by
    simp only [List.mem_cons, List.not_mem_nil, or_false] at hp
    rcases hp with rfl | rfl | rfl
    · exact Ok.none _
    · exact (Ok.of (upd_self _ _ _)).upd _ _
    · exact (Ok.of (upd_self _ _ _)).upd _ _
  have HOK := Lib.hid hok
  clear hba hok
  generalize hw3 : w2.alloc (.cells #[.pointer none, ptr l, ptr l] TPt) = w3 at *
  have HW3 := Lib.hid hw3
  clear hw3
  refine (new_L12thing M ⟨#[]⟩ (some ⟨w2.heap.size, 0, none⟩) 3 [none, some l, some l] _ _ w3 HR3.out HRW.out HOK.out (by simp)).mono ?_
  rintro e w4 ⟨r, fbr, m, he, hl3, hfb3, hf3, hb3, hR3⟩
  change e = .returned (ptr r) at he
  subst he
  have H := Lib.hid (CS.start (r := r) (m := m) (oR := oRr [.int .i64 M, .string ⟨#[]⟩] fbr none (some l) (some l) m) HG.out hB HB1.out HR1.out HL1.out.1 HL1.out.2 HB2.out HR2.out HL2.out.1 HL2.out.2 HB3.out hb3 hR3 hl3 hf3 hfb3 rfl)
  clear hl3 hfb3 hf3 hb3 hR3 HG HB1 HR1 HL1 HB2 HR2 HL2 HB3 HR3 HRW HOK HW3
  obtain ⟨ce, cl, ct, cr⟩ := H.out.cmpR
  have hd0 : w4.cell? ⟨r, 0, none⟩ = some (.int .i64 M) := H.out.cellR.cell 0
  have hd1 : w4.cell? ⟨l, 1, none⟩ = some (.string leafS) := H.out.cellL.cell 1
  go_wp2_with fail
  refine H.out.lenL.mono ?_
  rintro e _ ⟨rfl, rfl⟩
  go_wp2_with fail
  refine H.out.lenR.mono ?_
  rintro e _ ⟨rfl, rfl⟩
  go_wp2_with fail
  clear hd0 hd1 ce cl ct cr
  rw [← HGV.out]
  refine (H.out.get0 (by decide)).mono ?_
  rintro e w5 ⟨rfl, hc⟩
  rw [HGV.out]
  have H1 := Lib.hid hc
  clear hc H
  have H := H1
  clear H1
  go_wp2_with fail
  rw [← HGV.out]
  refine (H.out.get1 (by decide)).mono ?_
  rintro e w6 ⟨rfl, hc⟩
  rw [HGV.out]
  have H1 := Lib.hid hc
  clear hc H
  have H := H1
  clear H1
  obtain ⟨ce, cl, ct, cr⟩ := H.out.cmpR
  go_wp2_with fail
  clear ce cl ct cr
  rw [← HGV.out]
  refine (H.out.get2 (by decide)).mono ?_
  rintro e w7 ⟨rfl, hc⟩
  rw [HGV.out]
  have H1 := Lib.hid hc
  clear hc H
  have H := H1
  clear H1
  obtain ⟨ce, cl, ct, cr⟩ := H.out.cmpR
  go_wp2_with fail
  clear ce cl ct cr
  rw [← HGV.out]
  refine (H.out.markR (by decide)).mono ?_
  rintro e w8 ⟨rfl, hc⟩
  rw [HGV.out]
  have H1 := Lib.hid hc
  clear hc H
  have H := H1
  clear H1
  go_wp2_with fail
  rw [← HGV.out]
  refine (H.out.infoL (by decide)).mono ?_
  rintro e w9 ⟨rfl, hc⟩
  rw [HGV.out]
  have H1 := Lib.hid hc
  clear hc H
  have H := H1
  clear H1
  go_wp2_with fail
  rw [← HGV.out]
  refine (H.out.infoT (by decide)).mono ?_
  rintro e w10 ⟨rfl, hc⟩
  rw [HGV.out]
  have H1 := Lib.hid hc
  clear hc H
  have H := H1
  clear H1
  go_wp2_with fail
  rw [← HGV.out]
  refine (H.out.infoR (by decide)).mono ?_
  rintro e w11 ⟨rfl, hc⟩
  rw [HGV.out]
  have H1 := Lib.hid hc
  clear hc H
  have H := H1
  clear H1
  obtain ⟨xo, xm, xf, xn⟩ := H.out.cmpX
  go_wp2_with fail
  clear xo xm xf xn
  rw [← HGV.out]
  refine (H.out.state_f (by decide)).mono ?_
  rintro e w12 ⟨rfl, hc⟩
  rw [HGV.out]
  have H1 := Lib.hid hc
  clear hc H
  have H := H1
  clear H1
  go_wp2_with fail
  rw [← HGV.out]
  refine (H.out.allf_f (by decide)).mono ?_
  rintro e w13 ⟨rfl, hc⟩
  rw [HGV.out]
  have H1 := Lib.hid hc
  clear hc H
  have H := H1
  clear H1
  go_wp2_with fail
  rw [← HGV.out]
  refine (H.out.state_o (by decide)).mono ?_
  rintro e w14 ⟨rfl, hc⟩
  rw [HGV.out]
  have H1 := Lib.hid hc
  clear hc H
  have H := H1
  clear H1
  go_wp2_with fail
  rw [← HGV.out]
  refine (H.out.swing_no (by decide)).mono ?_
  rintro e w15 ⟨rfl, hc⟩
  rw [HGV.out]
  have H1 := Lib.hid hc
  clear hc H
  have H := H1
  clear H1
  go_wp2_with fail
  rw [← HGV.out]
  refine (H.out.swing_1 (by decide)).mono ?_
  rintro e w16 ⟨rfl, hc⟩
  rw [HGV.out]
  have H1 := Lib.hid hc
  clear hc H
  have H := H1
  clear H1
  go_wp2_with fail
  rw [← HGV.out]
  refine (H.out.get1 (by decide)).mono ?_
  rintro e w17 ⟨rfl, hc⟩
  rw [HGV.out]
  have H1 := Lib.hid hc
  clear hc H
  have H := H1
  clear H1
  obtain ⟨ce, cl, ct, cr⟩ := H.out.cmpR
  go_wp2_with fail
  clear ce cl ct cr
  have b1 := ((Blk.new w17 TPt [ptr r, ptr l]).alloc (.cells #[ptr m, ptr f] TQt)).alloc (.cells #[.bool false, .bool true] TBB)
  have b2 := (Blk.new (w17.alloc (.cells #[ptr r, ptr l] TPt)) TQt [ptr m, ptr f]).alloc (.cells #[.bool false, .bool true] TBB)
  have b3 := Blk.new ((w17.alloc (.cells #[ptr r, ptr l] TPt)).alloc (.cells #[ptr m, ptr f] TQt)) TBB [.bool false, .bool true]
  rw [World.size_alloc] at b2
  rw [World.size_alloc, World.size_alloc] at b3
  have hbA := (((Below.refl w17.heap.size w17).alloc (Nat.le_refl _) (.cells #[ptr r, ptr l] TPt)).alloc (by simp) (.cells #[ptr m, ptr f] TQt)).alloc (by simp <;> omega) (.cells #[.bool false, .bool true] TBB)
  have hsz : w17.heap.size + 1 + 1 < (((w17.alloc (.cells #[ptr r, ptr l] TPt)).alloc (.cells #[ptr m, ptr f] TQt)).alloc (.cells #[.bool false, .bool true] TBB)).heap.size := by simp
  have H2 := Lib.hid (H.out.more hbA)
  have HZB := Lib.hid H.out.lo
  have HB1 := Lib.hid (show Blk (((w17.alloc (.cells #[ptr r, ptr l] TPt)).alloc (.cells #[ptr m, ptr f] TQt)).alloc (.cells #[.bool false, .bool true] TBB)) w17.heap.size TPt [ptr r, ptr l] from b1)
  have HB2 := Lib.hid (show Blk (((w17.alloc (.cells #[ptr r, ptr l] TPt)).alloc (.cells #[ptr m, ptr f] TQt)).alloc (.cells #[.bool false, .bool true] TBB)) (w17.heap.size + 1) TQt [ptr m, ptr f] from b2)
  have HB3 := Lib.hid (show Blk (((w17.alloc (.cells #[ptr r, ptr l] TPt)).alloc (.cells #[ptr m, ptr f] TQt)).alloc (.cells #[.bool false, .bool true] TBB)) (w17.heap.size + 1 + 1) TBB [.bool false, .bool true] from b3)
  have HSZ := Lib.hid hsz
  clear b1 b2 b3 hbA hsz H
  generalize ((w17.alloc (.cells #[ptr r, ptr l] TPt)).alloc (.cells #[ptr m, ptr f] TQt)).alloc (.cells #[.bool false, .bool true] TBB) = w18 at *
  generalize w17.heap.size = z at *
  refine (H2.out.newscx (Row1.of_blk (rest := []) HB1.out) (Row1.of_blk (rest := []) HB2.out) (Row1.of_blk (rest := []) HB3.out)).mono ?_
  rintro e w19 ⟨s, v1, v2, v3, rfl, hbel, hc, k1, k2, k3⟩
  have hfr : Fr w18 w19 (fun _ => False) := Fr.of_below0 hbel
  have HB4 := Lib.hid (hfr.blk HB1.out id)
  have HB5 := Lib.hid (hfr.blk HB2.out id)
  have HB6 := Lib.hid (hfr.blk HB3.out id)
  have HK := Lib.hid (show ∀ k, k ≤ z + 1 + 1 → v1.ownBlock ≠ some k ∧ v2.ownBlock ≠ some k ∧ v3.ownBlock ≠ some k from fun k hk => ⟨fun e => by have := k1 k e; have := HSZ.out; omega, fun e => by have := k2 k e; have := HSZ.out; omega, fun e => by have := k3 k e; have := HSZ.out; omega⟩)
  have HS0 := Lib.hid hc
  clear hc k1 k2 k3 hbel hfr H2 HB1 HB2 HB3 HSZ
  have x1 : w19.cell? ⟨z, 0, none⟩ = some (ptr r) := HB4.out.cell 0
  have x2 : w19.cell? ⟨z + 1, 0, none⟩ = some (ptr m) := HB5.out.cell 0
  have x3 : w19.cell? ⟨z + 1 + 1, 0, none⟩ = some (.bool false) := HB6.out.cell 0
  have y1 := HB4.out.free ⟨z, 0, none⟩ rfl
  have y2 := HB5.out.free ⟨z + 1, 0, none⟩ rfl
  have y3 := HB6.out.free ⟨z + 1 + 1, 0, none⟩ rfl
  go_wp2_with fail
  have H := Lib.hid (HS0.out.lists (w' := ((w19.setCell ⟨z, 0, none⟩ (.pointer none)).setCell ⟨z + 1, 0, none⟩ (.pointer none)).setCell ⟨z + 1 + 1, 0, none⟩ (.bool true)) (S := fun k => k = z ∨ k = z + 1 ∨ k = z + 1 + 1)
    ((((Fr.refl w19 _).setCell ⟨z, 0, none⟩ (.pointer none) (fun _ => .inl rfl)).setCell ⟨z + 1, 0, none⟩ (.pointer none) (fun _ => .inr (.inl rfl))).setCell ⟨z + 1 + 1, 0, none⟩ (.bool true) (fun _ => .inr (.inr rfl)))
    (fun k hk => by
      have hz := HZB.out
      rcases hk with rfl | rfl | rfl
      · exact ⟨hz, (HK.out _ (by omega)).1, (HK.out _ (by omega)).2.1, (HK.out _ (by omega)).2.2, TPt, _, HB4.out, .inl rfl⟩
      · exact ⟨by omega, (HK.out _ (by omega)).1, (HK.out _ (by omega)).2.1, (HK.out _ (by omega)).2.2, TQt, _, HB5.out, .inr (.inl rfl)⟩
      · exact ⟨by omega, (HK.out _ (by omega)).1, (HK.out _ (by omega)).2.1, (HK.out _ (by omega)).2.2, TBB, _, HB6.out, .inr (.inr rfl)⟩))
  clear x1 x2 x3 y1 y2 y3 HS0 HB4 HB5 HB6 HK HZB
  generalize ((w19.setCell ⟨z, 0, none⟩ (.pointer none)).setCell ⟨z + 1, 0, none⟩ (.pointer none)).setCell ⟨z + 1 + 1, 0, none⟩ (.bool true) = w20 at *
  rw [← HGV.out]
  refine (H.out.freeze_no (by decide)).mono ?_
  rintro e w21 ⟨rfl, hc⟩
  rw [HGV.out]
  have H1 := Lib.hid hc
  clear hc H
  have H := H1
  clear H1
  go_wp2_with fail
  rw [← HGV.out]
  refine (H.out.freeze_yes (by decide)).mono ?_
  rintro e w22 ⟨rfl, hc⟩
  rw [HGV.out]
  have H1 := Lib.hid hc
  clear hc H
  have H := H1
  clear H1
  go_wp2_with fail
  rw [← HGV.out]
  refine (H.out.freeze_late (by decide)).mono ?_
  rintro e w23 ⟨rfl, hc⟩
  rw [HGV.out]
  have H1 := Lib.hid hc
  clear hc H
  have H := H1
  clear H1
  go_wp2_with fail
  rw [← HGV.out]
  refine (H.out.infoL (by decide)).mono ?_
  rintro e w24 ⟨rfl, hc⟩
  rw [HGV.out]
  have H1 := Lib.hid hc
  clear hc H
  have H := H1
  clear H1
  have xs := H.out.cmpS
  go_wp2_with fail
  clear xs
  rw [← HGV.out]
  refine (H.out.mark (by decide)).mono ?_
  rintro e w25 ⟨rfl, hc⟩
  rw [HGV.out]
  have H1 := Lib.hid hc
  clear hc H
  have H := H1
  clear H1
  go_wp2_with fail
  rw [← HGV.out]
  refine (H.out.markL (by decide)).mono ?_
  rintro e w26 ⟨rfl, hc⟩
  rw [HGV.out]
  have H1 := Lib.hid hc
  clear hc H
  have H := H1
  clear H1
  go_wp2_with fail
  rw [← HGV.out]
  refine (H.out.state_s (by decide) (by simp) (by simp)).mono ?_
  rintro e w27 ⟨rfl, hc⟩
  rw [HGV.out]
  have H1 := Lib.hid hc
  clear hc H
  have H := H1
  clear H1
  go_wp2_with fail
  rw [← HGV.out]
  refine (H.out.abort (by decide)).mono ?_
  rintro e w28 ⟨rfl, hc⟩
  rw [HGV.out]
  have H1 := Lib.hid hc
  clear hc H
  have H := H1
  clear H1
  go_wp2_with fail
  rw [← HGV.out]
  refine (H.out.state_s (by decide) (by simp) (by simp)).mono ?_
  rintro e w29 ⟨rfl, hc⟩
  rw [HGV.out]
  have H1 := Lib.hid hc
  clear hc H
  have H := H1
  clear H1
  go_wp2_with fail
  rw [← HGV.out]
  refine (H.out.commit (by decide)).mono ?_
  rintro e w30 ⟨rfl, hc⟩
  rw [HGV.out]
  have H1 := Lib.hid hc
  clear hc H
  have H := H1
  clear H1
  go_wp2_with fail
  rw [← HGV.out]
  refine (H.out.state_s (by decide) (by simp) (by simp)).mono ?_
  rintro e w31 ⟨rfl, hc⟩
  rw [HGV.out]
  have H1 := Lib.hid hc
  clear hc H
  have H := H1
  clear H1
  go_wp2_with fail
  rw [← HGV.out]
  refine (H.out.setall (by decide)).mono ?_
  rintro e w32 ⟨rfl, hc⟩
  rw [HGV.out]
  have H1 := Lib.hid hc
  clear hc H
  have H := H1
  clear H1
  go_wp2_with fail
  rw [← HGV.out]
  refine (H.out.allf_s (by decide)).mono ?_
  rintro e w33 ⟨rfl, hc⟩
  rw [HGV.out]
  have H1 := Lib.hid hc
  clear hc H
  have H := H1
  clear H1
  go_wp2_with fail
  rw [← HGV.out]
  refine (H.out.swing_2 (by decide)).mono ?_
  rintro e w34 ⟨rfl, hc⟩
  rw [HGV.out]
  have H1 := Lib.hid hc
  clear hc H
  have H := H1
  clear H1
  go_wp2_with fail
  rw [← HGV.out]
  refine (H.out.get2n (by decide)).mono ?_
  rintro e w35 ⟨rfl, hc⟩
  rw [HGV.out]
  have H1 := Lib.hid hc
  clear hc H
  have H := H1
  clear H1
  obtain ⟨hw1, hw2, hw3⟩ := H.out.row _ rfl
  obtain ⟨A1, cc1, rfl, hq1, _⟩ := owns_slice hw1
  obtain ⟨A2, cc2, rfl, hq2, _⟩ := owns_slice hw2
  obtain ⟨A3, cc3, rfl, hq3, _⟩ := owns_slice hw3
  obtain ⟨a1, rfl, hz1⟩ := hq1.2 (by decide)
  obtain ⟨a2, rfl, hz2⟩ := hq2.2 (by decide)
  obtain ⟨a3, rfl, hz3⟩ := hq3.2 (by decide)
  have p10 := hz1 0 _ rfl
  have p11 := hz1 1 _ rfl
  have p20 := hz2 0 _ rfl
  have p21 := hz2 1 _ rfl
  have p30 := hz3 0 _ rfl
  have p31 := hz3 1 _ rfl
  have ad0 : ∀ a : Addr, a.add 0 = a := fun a => by simp [Addr.add]
  rw [ad0] at p10 p20 p30
  change w35.cell? ⟨a1.block, a1.off + 1, none⟩ = some (ptr l) at p11
  change w35.cell? ⟨a2.block, a2.off + 1, none⟩ = some (ptr f) at p21
  change w35.cell? ⟨a3.block, a3.off + 1, none⟩ = some (.bool true) at p31
  clear hw1 hw2 hw3 hq1 hq2 hq3 hz1 hz2 hz3 ad0
  have q0 : w35.cell? ⟨s, 0, none⟩ = some (.slice (some a1) 2 cc1) := H.out.cellS.cell 0
  have q1 : w35.cell? ⟨s, 1, none⟩ = some (.slice (some a2) 2 cc2) := H.out.cellS.cell 1
  have q2 : w35.cell? ⟨s, 2, none⟩ = some (.slice (some a3) 2 cc3) := H.out.cellS.cell 2
  have q3 : w35.cell? ⟨s, 3, none⟩ = some (.int .i64 0) := H.out.cellS.cell 3
  have q4 : w35.cell? ⟨s, 4, none⟩ = some (.int .i64 1) := H.out.cellS.cell 4
  have q5 : w35.cell? ⟨s, 5, none⟩ = some (ptr t) := H.out.cellS.cell 5
  have q6 : w35.cell? ⟨s, 6, none⟩ = some (ptr l) := H.out.cellS.cell 6
  have f0 : w35.cell? ⟨f, 0, none⟩ = some (.slice none 0 0) := H.out.cellF.cell 0
  have f1 : w35.cell? ⟨f, 1, none⟩ = some (.slice none 0 0) := H.out.cellF.cell 1
  have f2 : w35.cell? ⟨f, 2, none⟩ = some (.slice none 0 0) := H.out.cellF.cell 2
  have f5 : w35.cell? ⟨f, 5, none⟩ = some (.pointer none) := H.out.cellF.cell 5
  have f6 : w35.cell? ⟨f, 6, none⟩ = some (.pointer none) := H.out.cellF.cell 6
  have l0 : w35.cell? ⟨l, 0, none⟩ = some (.int .i64 N) := H.out.cellL.cell 0
  have t0 : w35.cell? ⟨t, 0, none⟩ = some (.int .i64 N) := H.out.cellT.cell 0
  have t1 : w35.cell? ⟨t, 1, none⟩ = some (.string leafS) := H.out.cellT.cell 1
  obtain ⟨ce, cl, ct, cr⟩ := H.out.cmpR
  obtain ⟨xo, xm, xf, xn⟩ := H.out.cmpX
  have HGT := Lib.hid (show GAtI w35 B g wantK from H.out.gate)
  have HOL := Lib.hid H.out.old
  clear H HGV
  go_wp2
  trace_state
  exact HQ'.out _ _ ⟨rfl, HGT.out, HOL.out⟩
end Go.Proofs.Ytphhdmopfmelbaa

/- larchlaw12: RecordCalls. -/
namespace Go.Proofs.Ytphhdmopfmelbaa
open Go.RowKit Go.Proofs.YtphhdmopfmelbaaW.PrintWords
set_option linter.unusedVariables false
set_option linter.unusedSimpArgs false

set_option maxHeartbeats 4000000 in
set_option maxRecDepth 100000 in
theorem law_rc (w : World) (v : WV) (d : WD) (hv : v.Reads w d) (A : Option Addr) (c : Nat) (l : List ActD) (ha : ActsAt w A l) (hlc : l.length ≤ c) (N M : Int) (hN : -9223372036854775808 ≤ N ∧ N ≤ 9223372036854775807)
    (hl : CaseLen d l) (hr : ∀ r ∈ d.fields, r.length ≤ 1000000000000000) :
    Calls Try.prog 5 #[caseV v d A c l N M] w fun e w' => e = .returned (.bool true) ∧ Below w.heap.size w w' := by
  refine calls_hide fun Q HQ => ?_
  have HQ' := Lib.hid HQ
  have hba := (Below.refl w.heap.size w).alloc (Nat.le_refl _) (.cells (caseC v d A c l.length N M).toArray TCA)
  have HBA := Lib.hid hba
  have HB1 := Lib.hid (Blk.new w TCA (caseC v d A c l.length N M))
  clear HQ hv ha hba hl hr hN hlc
  go_enter Try.func5, Try.ntmps5
  go_wp2_with fail
  generalize w.alloc (.cells (caseC v d A c l.length N M).toArray TCA) = wA at *
  refine (law_fixed wA).mono ?_
  rintro e w1 ⟨rfl, hbl⟩
  have HBW := Lib.hid (HBA.out.trans (hbl.mono HBA.out.size))
  have HB2 := Lib.hid ((Fr.of_below0 (S := fun _ => False) hbl).blk HB1.out id)
  clear hbl HB1 HBA
  go_wp2
  go_loopw [3] (fun k wr => ∃ j : Nat, j ≤ 2 ∧ k = .int .i64 j ∧ Below w.heap.size w wr ∧ Blk wr w.heap.size TCA (caseC v d A c l.length N M)) (fun k _ => 2 - (intOf k).toNat)
  case atStart => exact ⟨0, Nat.zero_le _, rfl, HBW.out, HB2.out⟩
  case round =>
    clear HBW HB2
    obtain ⟨j, hj, rfl, hb, hk⟩ := hrel
    have HB := Lib.hid hb
    have HK := Lib.hid hk
    clear hb hk
    have hj3 : j = 0 ∨ j = 1 ∨ j = 2 := by omega
    clear hj
    rcases hj3 with rfl | rfl | rfl
    case inr.inr =>
      go_wp2
      exact HQ'.out _ _ ⟨rfl, HB.out⟩
    all_goals
      go_wp2_with fail
      refine (tape_new wr).mono ?_
      rintro e w2 ⟨t, rfl, htape, hbel⟩
      have HT := Lib.hid htape
      have HB2 := Lib.hid (HB.out.trans (hbel.mono HB.out.size))
      have HK2 := Lib.hid ((Fr.of_below0 (S := fun _ => False) hbel).blk HK.out id)
      have HSZ := Lib.hid (show w.heap.size < wr.heap.size from HK.out.lt)
      have HSL := Lib.hid hbel.size
      have hx6 : w2.cell? ⟨w.heap.size, 6, none⟩ = some (.int .i64 N) := HK2.out.cell 6
      have hx7 : w2.cell? ⟨w.heap.size, 7, none⟩ = some (.int .i64 M) := HK2.out.cell 7
      clear htape hbel HB HK
      go_wp2_with fail
    · refine (law_calls wr.heap.size (some t) w2 HT.out.gate HSL.out N M).mono ?_
      rintro e w3 ⟨rfl, hgt, hbl⟩
      have HT3 := Lib.hid (hgt t rfl)
      have HB3 := Lib.hid (HB2.out.trans (hbl.mono (Nat.le_of_lt HSZ.out)))
      have HK3 := Lib.hid (HK2.out.same (hbl.block w.heap.size HSZ.out))
      clear hgt hbl HT HB2 HK2 HSZ HSL hx6 hx7
      go_wp2_with fail
      have hal := (Below.refl w3.heap.size w3).alloc (Nat.le_refl _) (.cells (wantK.map (Value.int .i64)).toArray TII)
      have HBL := Lib.hid (Blk.new w3 TII (wantK.map (Value.int .i64)))
      have HT4 := Lib.hid ((GAt.below0 (TapeI.gate HT3.out) hal (fun _ => False)).gate t rfl)
      have HB4 := Lib.hid (HB3.out.trans (hal.mono HB3.out.size))
      have HK4 := Lib.hid ((Fr.of_below0 (S := fun _ => False) hal).blk HK3.out id)
      clear hal
      refine (tape_kinds (w3.alloc (.cells (wantK.map (Value.int .i64)).toArray TII)) wr.heap.size t wantK HT4.out (by decide)).mono ?_
      rintro e w5 ⟨kv, rfl, hko, hkb⟩
      have hko' : w5.ownsRow _ TII 1 kv 28 (wantK.map (Value.int .i64)) := hko
      obtain ⟨Ak, ck, rfl, hrk, _⟩ := owns_slice hko'
      have HRK := Lib.hid hrk
      have HRW := Lib.hid ((Row1.of_blk (us := wantK.map (Value.int .i64)) (rest := []) (by rw [List.append_nil]; exact HBL.out)).below hkb)
      have HB5 := Lib.hid (HB4.out.trans (hkb.mono HB4.out.size))
      have HK5 := Lib.hid ((Fr.of_below0 (S := fun _ => False) hkb).blk HK4.out id)
      clear hko hko' hkb hrk HBL HT4 HT3 HB3 HK3 HB4 HK4
      go_wp2_with fail
      refine (same_ints' Ak ck 28 wantK _ 28 w5 rfl (by decide) HRK.out HRW.out).mono ?_
      rintro e _ ⟨rfl, mm, rfl⟩
      go_wp2_with fail
      exact ⟨⟨1, by decide, rfl, pw_below_drewN HB5.out _, HK5.out⟩, by decide⟩
    · refine (law_calls wr.heap.size none w2 (GAt.nil _ _ _ _ _) HSL.out N M).mono ?_
      rintro e w3 ⟨rfl, hgt, hbl⟩
      have HB3 := Lib.hid (HB2.out.trans (hbl.mono (Nat.le_of_lt HSZ.out)))
      have HK3 := Lib.hid (HK2.out.same (hbl.block w.heap.size HSZ.out))
      clear hgt hbl HT HB2 HK2 HSZ HSL hx6 hx7
      go_wp2_with fail
      have hal := (Below.refl w3.heap.size w3).alloc (Nat.le_refl _) (.cells (wantK.map (Value.int .i64)).toArray TII)
      exact ⟨⟨2, Nat.le_refl _, rfl, HB3.out.trans (hal.mono HB3.out.size), (Fr.of_below0 (S := fun _ => False) hal).blk HK3.out id⟩, by decide⟩
end Go.Proofs.Ytphhdmopfmelbaa
