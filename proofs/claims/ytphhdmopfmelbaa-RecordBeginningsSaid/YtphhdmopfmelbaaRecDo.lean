/- record: do. Written in part by p_doscx.py. -/
import Derived.Test.YtphhdmopfmelbaaLive
namespace Go.Proofs.Ytphhdmopfmelbaa
open Go.RowKit Go.Proofs.YtphhdmopfmelbaaW.PrintWords
set_option linter.unusedVariables false
set_option linter.unusedSimpArgs false

set_option maxHeartbeats 400000 in
theorem bit_of (f : Bool) (w : World) : Calls Try.prog 95 #[.bool f] w fun e w' => e = .returned (.int .i64 (bitI f)) ∧ w = w' := by
  cases f
  all_goals
    go_enter Try.func95, Try.ntmps95
    go_wp2
    go_ret
    exact ⟨rfl, rfl⟩

set_option maxHeartbeats 400000 in
theorem doscx_7 (B : Nat) (g : Option Nat) (ks : List Int) (R : Nat → Option RecO) (X : Nat → Option ScxO) (w : World) (h : Repint w R X) (hg : GAtI w B g ks) (hbB : B ≤ w.heap.size) (hl : ks.length ≤ 1000000000) (b : Nat) (o : ScxO) (ho : X b = some o) (n0 : 0 ≤ o.state) (n1 : o.state ≤ 1000) :
    Calls Try.prog 92 #[gvI g, .pointer (some ⟨b, 0, none⟩), .int .i64 7] w fun e w' => e = .returned (.int .i64 o.state) ∧ StepI B g w w' (ks ++ [1]) (fun _ => False) ∧ Repint w' R X := by
  refine calls_hide fun Q HQ => ?_
  have HQ' := Lib.hid HQ
  have HC := Lib.hid (state_int B g ks R X w h hg hbB hl b o ho n0 n1)
  clear HQ h hg
  go_enter Try.func92, Try.ntmps92
  go_wp2_with fail
  refine HC.out.mono ?_
  rintro e w1 ⟨rfl, H1, H2⟩
  have H1' := Lib.hid H1
  have H2' := Lib.hid H2
  clear H1 H2 HC
  go_wp2_with fail
  exact HQ'.out _ _ ⟨rfl, H1'.out, H2'.out⟩
set_option maxHeartbeats 400000 in
theorem doscx_8 (B : Nat) (g : Option Nat) (ks : List Int) (R : Nat → Option RecO) (X : Nat → Option ScxO) (w : World) (h : Repint w R X) (hg : GAtI w B g ks) (hbB : B ≤ w.heap.size) (hl : ks.length ≤ 1000000000) (b : Nat) (o : ScxO) (ho : X b = some o)  :
    Calls Try.prog 92 #[gvI g, .pointer (some ⟨b, 0, none⟩), .int .i64 8] w fun e w' => e = .returned (.int .i64 0) ∧ StepI B g w w' (ks ++ [2]) (fun k => k = b) ∧ Repint w' R (upd X b { o with state := 1 }) := by
  refine calls_hide fun Q HQ => ?_
  have HQ' := Lib.hid HQ
  have HC := Lib.hid (commit_int B g ks R X w h hg hbB hl b o ho)
  clear HQ h hg
  go_enter Try.func92, Try.ntmps92
  go_wp2_with fail
  refine HC.out.mono ?_
  rintro e w1 ⟨rfl, H1, H2⟩
  have H1' := Lib.hid H1
  have H2' := Lib.hid H2
  clear H1 H2 HC
  go_wp2_with fail
  exact HQ'.out _ _ ⟨rfl, H1'.out, H2'.out⟩
set_option maxHeartbeats 400000 in
theorem doscx_9 (B : Nat) (g : Option Nat) (ks : List Int) (R : Nat → Option RecO) (X : Nat → Option ScxO) (w : World) (h : Repint w R X) (hg : GAtI w B g ks) (hbB : B ≤ w.heap.size) (hl : ks.length ≤ 1000000000) (b : Nat) (o : ScxO) (ho : X b = some o)  :
    Calls Try.prog 92 #[gvI g, .pointer (some ⟨b, 0, none⟩), .int .i64 9] w fun e w' => e = .returned (.int .i64 0) ∧ StepI B g w w' (ks ++ [2]) (fun k => k = b) ∧ Repint w' R (upd X b { o with state := 2 }) := by
  refine calls_hide fun Q HQ => ?_
  have HQ' := Lib.hid HQ
  have HC := Lib.hid (abort_int B g ks R X w h hg hbB hl b o ho)
  clear HQ h hg
  go_enter Try.func92, Try.ntmps92
  go_wp2_with fail
  refine HC.out.mono ?_
  rintro e w1 ⟨rfl, H1, H2⟩
  have H1' := Lib.hid H1
  have H2' := Lib.hid H2
  clear H1 H2 HC
  go_wp2_with fail
  exact HQ'.out _ _ ⟨rfl, H1'.out, H2'.out⟩
set_option maxHeartbeats 400000 in
theorem doscx_10 (B : Nat) (g : Option Nat) (ks : List Int) (R : Nat → Option RecO) (X : Nat → Option ScxO) (w : World) (h : Repint w R X) (hg : GAtI w B g ks) (hbB : B ≤ w.heap.size) (hl : ks.length ≤ 1000000000) (b : Nat) (o : ScxO) (ho : X b = some o)  :
    Calls Try.prog 92 #[gvI g, .pointer (some ⟨b, 0, none⟩), .int .i64 10] w fun e w' => e = .returned (.int .i64 (bitI o.frozen)) ∧ StepI B g w w' (ks ++ [1]) (fun _ => False) ∧ Repint w' R X := by
  refine calls_hide fun Q HQ => ?_
  have HQ' := Lib.hid HQ
  have HC := Lib.hid (allfrozen_int B g ks R X w h hg hbB hl b o ho)
  clear HQ h hg
  go_enter Try.func92, Try.ntmps92
  go_wp2_with fail
  refine HC.out.mono ?_
  rintro e w1 ⟨rfl, H1, H2⟩
  have H1' := Lib.hid H1
  have H2' := Lib.hid H2
  clear H1 H2 HC
  go_wp2_with fail
  refine (bit_of _ _).mono ?_
  rintro e w2 ⟨rfl, rfl⟩
  go_wp2
  exact HQ'.out _ _ ⟨rfl, H1'.out, H2'.out⟩
set_option maxHeartbeats 400000 in
theorem doscx_11 (B : Nat) (g : Option Nat) (ks : List Int) (R : Nat → Option RecO) (X : Nat → Option ScxO) (w : World) (h : Repint w R X) (hg : GAtI w B g ks) (hbB : B ≤ w.heap.size) (hl : ks.length ≤ 1000000000) (b : Nat) (o : ScxO) (ho : X b = some o)  :
    Calls Try.prog 92 #[gvI g, .pointer (some ⟨b, 0, none⟩), .int .i64 11] w fun e w' => e = .returned (.int .i64 0) ∧ StepI B g w w' (ks ++ [2]) (fun k => k = b) ∧ Repint w' R (upd X b { o with frozen := true }) := by
  refine calls_hide fun Q HQ => ?_
  have HQ' := Lib.hid HQ
  have HC := Lib.hid (setallfrozen_int B g ks R X w h hg hbB hl b o ho)
  clear HQ h hg
  go_enter Try.func92, Try.ntmps92
  go_wp2_with fail
  refine HC.out.mono ?_
  rintro e w1 ⟨rfl, H1, H2⟩
  have H1' := Lib.hid H1
  have H2' := Lib.hid H2
  clear H1 H2 HC
  go_wp2_with fail
  exact HQ'.out _ _ ⟨rfl, H1'.out, H2'.out⟩
set_option maxHeartbeats 400000 in
set_option maxRecDepth 100000 in
theorem do_via (B : Nat) (g : Option Nat) (m : Nat) (rs fs xs : List Nat) (v1 v2 v3 : Value) (w : World) (h : MadeAt TLV w B m rs fs xs v1 v2 v3) (k a b c : Int) (i : Nat) (hi : i < xs.length) (s : Nat) (hs : xs[i]? = some s) (hk : 7 ≤ k) (P : Int → World → Prop)
    (HC : Calls Try.prog 92 #[gvI g, .pointer (some ⟨s, 0, none⟩), .int .i64 k] (w.alloc (.cells #[.int .i64 k, .int .i64 i, .int .i64 a, .int .i64 b, .int .i64 c] 65)).drew fun e w' => ∃ n, e = .returned (.int .i64 n) ∧ P n w') :
    Calls Try.prog 41 #[.pointer (some ⟨m, 0, none⟩), gvI g, .agg #[.int .i64 k, .int .i64 i, .int .i64 a, .int .i64 b, .int .i64 c]] w fun e w' => ∃ n, e = .returned (.int .i64 n) ∧ P n w' := by
  refine calls_hide fun Q HQ => ?_
  have HQ' := Lib.hid HQ
  have HC' := Lib.hid HC
  obtain ⟨b0, k0, hv, hcell⟩ := owns_at h.o3 hi
  rw [hs] at hcell
  have hcell1 : _ = some (Value.pointer (some ⟨s, 0, none⟩)) := hcell
  have hm : w.cell? ⟨m, 2, none⟩ = some v3 := by rw [h.blk.cell]; rfl
  rw [hv] at hm
  have hl := World.block_lt_of_cell? w _ hm
  have hl1 := World.block_lt_of_cell? w _ hcell
  clear HQ HC h hv hcell
  go_enter Try.func41, Try.ntmps41
  go_wp2_with fail
  have hbl := Blk.new w 65 [.int .i64 k, .int .i64 i, .int .i64 a, .int .i64 b, .int .i64 c]
  have hm2 := (World.cell?_alloc_lt w (.cells #[.int .i64 k, .int .i64 i, .int .i64 a, .int .i64 b, .int .i64 c] 65) _ hl).trans hm
  have hc2 := (World.cell?_alloc_lt w (.cells #[.int .i64 k, .int .i64 i, .int .i64 a, .int .i64 b, .int .i64 c] 65) _ hl1).trans hcell1
  have ha0 := hbl.cell 0
  have ha1 := hbl.cell 1
  simp only [List.getElem?_cons_zero, List.getElem?_cons_succ] at ha0 ha1
  clear hm hcell1 hbl
  generalize w.alloc (.cells #[.int .i64 k, .int .i64 i, .int .i64 a, .int .i64 b, .int .i64 c] 65) = wA at *
  refine wp_region_still_tail 11 (by kernel_rfl) (by kernel_rfl) ?_
  simp only [List.take_succ_cons, List.take_zero, List.drop_succ_cons, List.drop_zero]
  iterate 11 still_step
  refine wpStill_nil ?_
  change wpList _ _ _ _ _ wA.drew
  go_wp2_with fail
  refine HC'.out.mono ?_
  rintro e w1 ⟨n, rfl, H1⟩
  have H1' := Lib.hid H1
  clear H1 HC'
  go_wp2
  exact HQ'.out _ _ ⟨n, rfl, H1'.out⟩

end Go.Proofs.Ytphhdmopfmelbaa
