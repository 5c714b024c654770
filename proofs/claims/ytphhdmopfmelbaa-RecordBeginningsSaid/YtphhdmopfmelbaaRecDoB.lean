/- record: do, all kinds. -/
import Derived.Test.YtphhdmopfmelbaaRecDoA
namespace Go.Proofs.Ytphhdmopfmelbaa
open Go.RowKit Go.Proofs.YtphhdmopfmelbaaW.PrintWords
set_option linter.unusedVariables false
set_option linter.unusedSimpArgs false

theorem live_do {d : WD} {B m : Nat} {w : World} {R : Nat → Option RecO} {X : Nat → Option ScxO} {rs fs xs : List Nat} {v1 v2 v3 : Value} {g : Option Nat} {ks : List Int} (h : LiveAt d B m w R X rs fs xs v1 v2 v3) (hfo : d.Form) (hg : GAtI w B g ks) (hbB : B ≤ w.heap.size) (hl : ks.length ≤ 1000000000)
    (k at_ a b c : Int) (f : d.Fit k at_ a b c) :
    Calls Try.prog 41 #[.pointer (some ⟨m, 0, none⟩), gvI g, .agg #[.int .i64 k, .int .i64 at_, .int .i64 a, .int .i64 b, .int .i64 c]] w fun e w' =>
      e = .returned (.int .i64 (doD d k at_ a b c).1) ∧ StepI B g w w' (ks ++ [kd k]) (Thing B w) ∧ ∃ R' X', LiveAt (doD d k at_ a b c).2 B m w' R' X' rs fs xs v1 v2 v3 := by
  obtain ⟨i, rfl⟩ : ∃ i : Nat, at_ = i := ⟨at_.toNat, by have := f.at0; omega⟩
  by_cases hk : k < 7
  · have h0 := f.k0
    have hc : k = 1 ∨ k = 2 ∨ k = 3 ∨ k = 4 ∨ k = 5 ∨ k = 6 := by omega
    rcases hc with rfl | rfl | rfl | rfl | rfl | rfl
    · exact do_1 h hfo hg hbB hl i a b c f
    · exact do_2 h hfo hg hbB hl i a b c f
    · exact do_3 h hfo hg hbB hl i a b c f
    · exact do_4 h hfo hg hbB hl i a b c f
    · exact do_5 h hfo hg hbB hl i a b c f
    · exact do_6 h hfo hg hbB hl i a b c f
  · have hi : i < d.states.length := by have := f.at2 (by omega); omega
    obtain ⟨q, s, hq, hX, hp⟩ := h.scx hi
    have hbA := ((Below.refl w.heap.size w).alloc (Nat.le_refl _) (.cells #[.int .i64 k, .int .i64 i, .int .i64 a, .int .i64 b, .int .i64 c] 65)).drew
    have HZ := h.below hbA
    have HG := (gstep_below hg hbA).gate
    have hbBz := Nat.le_trans hbB hbA.size
    have hS := hfo.hS _ (getD_mem hi 0)
    have key := do_via B g m rs fs xs v1 v2 v3 w h.made k a b c i (by have := h.hx; omega) q hq (by omega) (fun n w' => n = (doD d k i a b c).1 ∧ StepI B g w w' (ks ++ [kd k]) (Thing B w) ∧ ∃ R' X', LiveAt (doD d k i a b c).2 B m w' R' X' rs fs xs v1 v2 v3)
    have hk1 := f.k1
    refine (key ?_).mono (fun e w' h => by obtain ⟨n, rfl, rfl, h1, h2⟩ := h; exact ⟨rfl, h1, h2⟩)
    clear key
    have hc : k = 7 ∨ k = 8 ∨ k = 9 ∨ k = 10 ∨ k = 11 := by omega
    rcases hc with rfl | rfl | rfl | rfl | rfl
    · refine (doscx_7 B g ks R X _ HZ.stage.rep HG hbBz hl q s hX (by rw [hp.1]; exact hS.1) (by rw [hp.1]; omega)).mono ?_
      rintro e w1 ⟨rfl, H1, H2⟩
      exact ⟨_, rfl, hp.1, act_end hg hbA H1 (fun _ h => h.elim), _, _, HZ.same HG H1 H2⟩
    · refine (doscx_8 B g ks R X _ HZ.stage.rep HG hbBz hl q s hX).mono ?_
      rintro e w1 ⟨rfl, H1, H2⟩
      exact ⟨_, rfl, rfl, act_end hg hbA H1 (fun _ h => h ▸ HZ.thingX hq hX), _, _, HZ.setScx HG hq hX hp H1 H2 rfl rfl rfl (by simp [doD]) (fun k => getD_set _ _ _ _ _ hi) (fun k => by split <;> simp_all [doD, PP])⟩
    · refine (doscx_9 B g ks R X _ HZ.stage.rep HG hbBz hl q s hX).mono ?_
      rintro e w1 ⟨rfl, H1, H2⟩
      exact ⟨_, rfl, rfl, act_end hg hbA H1 (fun _ h => h ▸ HZ.thingX hq hX), _, _, HZ.setScx HG hq hX hp H1 H2 rfl rfl rfl (by simp [doD]) (fun k => getD_set _ _ _ _ _ hi) (fun k => by split <;> simp_all [doD, PP])⟩
    · refine (doscx_10 B g ks R X _ HZ.stage.rep HG hbBz hl q s hX).mono ?_
      rintro e w1 ⟨rfl, H1, H2⟩
      exact ⟨_, rfl, by rw [hp.2]; rfl, act_end hg hbA H1 (fun _ h => h.elim), _, _, HZ.same HG H1 H2⟩
    · refine (doscx_11 B g ks R X _ HZ.stage.rep HG hbBz hl q s hX).mono ?_
      rintro e w1 ⟨rfl, H1, H2⟩
      exact ⟨_, rfl, rfl, act_end hg hbA H1 (fun _ h => h ▸ HZ.thingX hq hX), _, _, HZ.setScx HG hq hX hp H1 H2 rfl rfl rfl rfl (fun k => by split <;> simp_all [doD, PP]) (fun k => getD_set _ _ _ _ _ (by rw [hfo.e4]; exact hi))⟩
end Go.Proofs.Ytphhdmopfmelbaa
