/- Joined texts: Rec HelpR HelpC ChainA. -/
import Derived.Test.YteeficpjggimcaaM1
import Derived.Lib.Hide
import Derived.StillTailTactics

/- Data-records and SCX-records: each access by a gate. Written by mk.py. -/
namespace Go.Proofs.Yteeficpjggimcaa
open Go.RowKit Go.Proofs.YteeficpjggimcaaW.PrintWords
set_option linter.unusedVariables false
set_option linter.unusedSimpArgs false

abbrev RepapiPair := Rep 86 2 106 116
theorem tys_apiPair : Tys 86 106 116 TT ti := ⟨by decide, by decide, by decide, by decide, by decide, by decide, by decide, by decide, by decide⟩

set_option maxHeartbeats 400000 in
theorem len_apiPair (R : Nat → Option RecO) (X : Nat → Option ScxO) (w : World) (h : RepapiPair w R X) (b : Nat) (o : RecO) (ho : R b = some o) :
    Calls Try.prog 46 #[pv (some b)] w fun e w' => e = .returned (.int .i64 o.fields.length) ∧ w = w' := by
  have hc : w.cell? ⟨b, 2, none⟩ = some (.slice (some ⟨o.fb, 0, none⟩) o.fields.length o.fields.length) := h.cell ho 0
  show Calls Try.prog 46 #[.pointer (some ⟨b, 0, none⟩)] w _
  go_enter Try.func46, Try.ntmps46
  go_wp2
  go_ret
  exact ⟨rfl, rfl⟩

set_option maxHeartbeats 400000 in
theorem get_apiPair (B : Nat) (g : Option Nat) (ks : List Int) (R : Nat → Option RecO) (X : Nat → Option ScxO) (w : World) (h : RepapiPair w R X) (hg : GAtI w B g ks) (hbB : B ≤ w.heap.size) (hl : ks.length ≤ 1000000000) (b : Nat) (o : RecO) (ho : R b = some o) (i : Int) (i0 : 0 ≤ i) (i1 : i < o.fields.length) :
    Calls Try.prog 33 #[pv (some b), gvI g, .int .i64 i] w fun e w' => e = .returned (pv (o.fields.getD i.toNat none)) ∧ StepI B g w w' (ks ++ [1]) (fun _ => False) ∧ RepapiPair w' R X := by
  have hc : w.cell? ⟨b, 2, none⟩ = some (.slice (some ⟨o.fb, 0, none⟩) o.fields.length o.fields.length) := h.cell ho 0
  have hlt : i.toNat < o.fields.length := by omega
  have hx0 : o.fields[i.toNat]? = some (o.fields.getD i.toNat none) := by simp [List.getD_eq_getElem?_getD, List.getElem?_eq_getElem hlt]
  have hx : (o.fields.map pv)[i.toNat]? = some (pv (o.fields.getD i.toNat none)) := by rw [List.getElem?_map, hx0]; rfl
  have C := cell_load_RecordapiPair B g ks o.fb i.toNat 106 _ w hg hbB hl (h.fld b o ho) (by decide) (by decide) _ hx (h.recPtr (h.okField ho hx0))
  have HS := fun w' hs => h.step tys_apiPair hg (w' := w') (ks' := ks ++ [1]) hs
  generalize o.fields.getD i.toNat none = p at *
  clear hx hx0 h hg
  show Calls Try.prog 33 #[.pointer (some ⟨b, 0, none⟩), gvI g, .int .i64 i] w _
  have HC := Lib.hid C
  have HS' := Lib.hid HS
  clear C HS
  go_enter Try.func33, Try.ntmps33
  go_wp2_with fail
  refine HC.out.mono ?_
  rintro e w1 ⟨rfl, H⟩
  have H2 := Lib.hid (HS'.out w1 H)
  have H1 := Lib.hid H
  clear H HC HS'
  go_wp2
  go_ret
  exact ⟨rfl, H1.out, H2.out⟩

set_option maxHeartbeats 400000 in
theorem swing_apiPair (B : Nat) (g : Option Nat) (ks : List Int) (R : Nat → Option RecO) (X : Nat → Option ScxO) (w : World) (h : RepapiPair w R X) (hg : GAtI w B g ks) (hbB : B ≤ w.heap.size) (hl : ks.length ≤ 1000000000) (b : Nat) (o : RecO) (ho : R b = some o) (i : Int) (i0 : 0 ≤ i) (i1 : i < o.fields.length) (x y : Option Nat) (hx : Ok R x) (hy : Ok R y) :
    Calls Try.prog 64 #[pv (some b), gvI g, .int .i64 i, pv x, pv y] w fun e w' => e = .returned (.bool (decide (o.fields.getD i.toNat none = x))) ∧ StepI B g w w' (ks ++ [5]) (fun k => k = o.fb) ∧
      RepapiPair w' (upd R b { o with fields := if o.fields.getD i.toNat none = x then o.fields.set i.toNat y else o.fields }) X := by
  have hc : w.cell? ⟨b, 2, none⟩ = some (.slice (some ⟨o.fb, 0, none⟩) o.fields.length o.fields.length) := h.cell ho 0
  have hlt : i.toNat < o.fields.length := by omega
  have hx0 : o.fields[i.toNat]? = some (o.fields.getD i.toNat none) := by simp [List.getD_eq_getElem?_getD, List.getElem?_eq_getElem hlt]
  have hx1 : (o.fields.map pv)[i.toNat]? = some (pv (o.fields.getD i.toNat none)) := by rw [List.getElem?_map, hx0]; rfl
  have C := cell_cas_RecordapiPair B g ks o.fb i.toNat 106 _ w hg hbB hl (h.fld b o ho) (by decide) (by decide) _ x y hx1 (h.recPtr (h.okField ho hx0)) (h.recPtr hx) (h.recPtr hy)
  have HS : ∀ w', StepI B g w w' (ks ++ [5]) (fun k => k = o.fb) → Blk w' o.fb 106 (if o.fields.getD i.toNat none = x then (o.fields.map pv).set i.toNat (pv y) else o.fields.map pv) →
      RepapiPair w' (upd R b { o with fields := if o.fields.getD i.toNat none = x then o.fields.set i.toNat y else o.fields }) X := fun w' hs hb => by
    refine h.setFields tys_apiPair hg ho hs ?_ ?_ ?_
    · split <;> simp
    · split at hb
      · rw [if_pos ‹_›, List.map_set]; exact hb
      · rw [if_neg ‹_›]; exact hb
    · intro z hz
      split at hz
      · rcases List.mem_or_eq_of_mem_set hz with hz | hz
        · exact h.kf b o ho z hz
        · exact hy z hz.symm
      · exact h.kf b o ho z hz
  generalize o.fields.getD i.toNat none = p at *
  clear hx hx0 hx1 hy h hg
  show Calls Try.prog 64 #[.pointer (some ⟨b, 0, none⟩), gvI g, .int .i64 i, pv x, pv y] w _
  refine calls_hide fun Q HQ => ?_
  have HQ' := Lib.hid HQ
  clear HQ
  have HC := Lib.hid C
  have HS' := Lib.hid HS
  clear C HS
  go_enter Try.func64, Try.ntmps64
  go_wp2_with fail
  refine HC.out.mono ?_
  rintro e w1 ⟨rfl, H, hb⟩
  have H2 := Lib.hid (HS'.out w1 H hb)
  have H1 := Lib.hid H
  clear H HC HS' hb
  go_wp2
  exact HQ'.out _ _ ⟨rfl, H1.out, H2.out⟩

set_option maxHeartbeats 400000 in
theorem info_apiPair (B : Nat) (g : Option Nat) (ks : List Int) (R : Nat → Option RecO) (X : Nat → Option ScxO) (w : World) (h : RepapiPair w R X) (hg : GAtI w B g ks) (hbB : B ≤ w.heap.size) (hl : ks.length ≤ 1000000000) (b : Nat) (o : RecO) (ho : R b = some o) :
    Calls Try.prog 44 #[pv (some b), gvI g] w fun e w' => e = .returned (pv o.info) ∧ StepI B g w w' (ks ++ [1]) (fun _ => False) ∧ RepapiPair w' R X := by
  have C := cell_load_ScxapiPair B g ks b 3 86 _ w hg hbB hl (h.recs b o ho).1 (by decide) (by decide) o.info (h.at_ ho 1) (h.scxPtr (h.okInfo ho))
  have HS := fun w' hs => h.step tys_apiPair hg (w' := w') (ks' := ks ++ [1]) hs
  clear h hg
  show Calls Try.prog 44 #[.pointer (some ⟨b, 0, none⟩), gvI g] w _
  have HC := Lib.hid C
  have HS' := Lib.hid HS
  clear C HS
  go_enter Try.func44, Try.ntmps44
  go_wp2_with fail
  refine HC.out.mono ?_
  rintro e w1 ⟨rfl, H⟩
  have H2 := Lib.hid (HS'.out w1 H)
  have H1 := Lib.hid H
  clear H HC HS'
  go_wp2
  go_ret
  exact ⟨rfl, H1.out, H2.out⟩

set_option maxHeartbeats 400000 in
theorem freeze_apiPair (B : Nat) (g : Option Nat) (ks : List Int) (R : Nat → Option RecO) (X : Nat → Option ScxO) (w : World) (h : RepapiPair w R X) (hg : GAtI w B g ks) (hbB : B ≤ w.heap.size) (hl : ks.length ≤ 1000000000) (b : Nat) (o : RecO) (ho : R b = some o) (x y : Option Nat) (hx : Ok X x) (hy : Ok X y) :
    Calls Try.prog 59 #[pv (some b), gvI g, pv x, pv y] w fun e w' => e = .returned (.bool (decide (o.info = x))) ∧ StepI B g w w' (ks ++ [5]) (fun k => k = b) ∧
      RepapiPair w' (upd R b { o with info := if o.info = x then y else o.info }) X := by
  have C := cell_cas_ScxapiPair B g ks b 3 86 _ w hg hbB hl (h.recs b o ho).1 (by decide) (by decide) o.info x y (h.at_ ho 1) (h.scxPtr (h.okInfo ho)) (h.scxPtr hx) (h.scxPtr hy)
  have HS : ∀ w', StepI B g w w' (ks ++ [5]) (fun k => k = b) → Blk w' b 86 (if o.info = x then o.cells.set 3 (pv y) else o.cells) →
      RepapiPair w' (upd R b { o with info := if o.info = x then y else o.info }) X := fun w' hs hb => by
    refine h.setRec tys_apiPair hg ho hs rfl rfl rfl ?_ ?_
    · split at hb
      · rw [if_pos ‹_›]
        rw [show 3 = 2 + 1 from rfl, o.set_tail (h.recs b o ho).2] at hb
        exact hb
      · rw [if_neg ‹_›]; exact hb
    · show Ok X (if o.info = x then y else o.info)
      split
      · exact hy
      · exact h.okInfo ho
  clear hx hy h hg
  show Calls Try.prog 59 #[.pointer (some ⟨b, 0, none⟩), gvI g, pv x, pv y] w _
  refine calls_hide fun Q HQ => ?_
  have HQ' := Lib.hid HQ
  clear HQ
  have HC := Lib.hid C
  have HS' := Lib.hid HS
  clear C HS
  go_enter Try.func59, Try.ntmps59
  go_wp2_with fail
  refine HC.out.mono ?_
  rintro e w1 ⟨rfl, H, hb⟩
  have H2 := Lib.hid (HS'.out w1 H hb)
  have H1 := Lib.hid H
  clear H HC HS' hb
  go_wp2
  exact HQ'.out _ _ ⟨rfl, H1.out, H2.out⟩

set_option maxHeartbeats 400000 in
theorem marked_apiPair (B : Nat) (g : Option Nat) (ks : List Int) (R : Nat → Option RecO) (X : Nat → Option ScxO) (w : World) (h : RepapiPair w R X) (hg : GAtI w B g ks) (hbB : B ≤ w.heap.size) (hl : ks.length ≤ 1000000000) (b : Nat) (o : RecO) (ho : R b = some o) :
    Calls Try.prog 67 #[pv (some b), gvI g] w fun e w' => e = .returned (.bool o.mark) ∧ StepI B g w w' (ks ++ [1]) (fun _ => False) ∧ RepapiPair w' R X := by
  have HS := fun w' hs => h.step tys_apiPair hg (w' := w') (ks' := ks ++ [1]) hs
  have HS' := Lib.hid HS
  clear HS
  cases hm : o.mark with
  | false =>
    have C := mark_load_false B g ks b 4 86 _ w hg hbB hl (h.recs b o ho).1 (by decide) (by decide) (by rw [show 4 = 2 + 2 from rfl, h.at_ ho 2]; simp [RecO.tail, ScxO.cells, u32b, hm])
    have HC := Lib.hid C
    clear C h hg hm
    show Calls Try.prog 67 #[.pointer (some ⟨b, 0, none⟩), gvI g] w _
    go_enter Try.func67, Try.ntmps67
    go_wp2_with fail
    refine HC.out.mono ?_
    rintro e w1 ⟨rfl, H⟩
    have H2 := Lib.hid (HS'.out w1 H)
    have H1 := Lib.hid H
    clear H HC HS'
    go_wp2
    go_ret
    exact ⟨rfl, H1.out, H2.out⟩
  | true =>
    have C := mark_load_true B g ks b 4 86 _ w hg hbB hl (h.recs b o ho).1 (by decide) (by decide) (by rw [show 4 = 2 + 2 from rfl, h.at_ ho 2]; simp [RecO.tail, ScxO.cells, u32b, hm])
    have HC := Lib.hid C
    clear C h hg hm
    show Calls Try.prog 67 #[.pointer (some ⟨b, 0, none⟩), gvI g] w _
    go_enter Try.func67, Try.ntmps67
    go_wp2_with fail
    refine HC.out.mono ?_
    rintro e w1 ⟨rfl, H⟩
    have H2 := Lib.hid (HS'.out w1 H)
    have H1 := Lib.hid H
    clear H HC HS'
    go_wp2
    go_ret
    exact ⟨rfl, H1.out, H2.out⟩

set_option maxHeartbeats 400000 in
theorem allfrozen_apiPair (B : Nat) (g : Option Nat) (ks : List Int) (R : Nat → Option RecO) (X : Nat → Option ScxO) (w : World) (h : RepapiPair w R X) (hg : GAtI w B g ks) (hbB : B ≤ w.heap.size) (hl : ks.length ≤ 1000000000) (b : Nat) (o : ScxO) (ho : X b = some o) :
    Calls Try.prog 60 #[pv (some b), gvI g] w fun e w' => e = .returned (.bool o.frozen) ∧ StepI B g w w' (ks ++ [1]) (fun _ => False) ∧ RepapiPair w' R X := by
  have HS := fun w' hs => h.step tys_apiPair hg (w' := w') (ks' := ks ++ [1]) hs
  have HS' := Lib.hid HS
  clear HS
  cases hm : o.frozen with
  | false =>
    have C := mark_load_false B g ks b 8 116 _ w hg hbB hl (h.scx b o ho) (by decide) (by decide) (by simp [RecO.tail, ScxO.cells, u32b, hm])
    have HC := Lib.hid C
    clear C h hg hm
    show Calls Try.prog 60 #[.pointer (some ⟨b, 0, none⟩), gvI g] w _
    go_enter Try.func60, Try.ntmps60
    go_wp2_with fail
    refine HC.out.mono ?_
    rintro e w1 ⟨rfl, H⟩
    have H2 := Lib.hid (HS'.out w1 H)
    have H1 := Lib.hid H
    clear H HC HS'
    go_wp2
    go_ret
    exact ⟨rfl, H1.out, H2.out⟩
  | true =>
    have C := mark_load_true B g ks b 8 116 _ w hg hbB hl (h.scx b o ho) (by decide) (by decide) (by simp [RecO.tail, ScxO.cells, u32b, hm])
    have HC := Lib.hid C
    clear C h hg hm
    show Calls Try.prog 60 #[.pointer (some ⟨b, 0, none⟩), gvI g] w _
    go_enter Try.func60, Try.ntmps60
    go_wp2_with fail
    refine HC.out.mono ?_
    rintro e w1 ⟨rfl, H⟩
    have H2 := Lib.hid (HS'.out w1 H)
    have H1 := Lib.hid H
    clear H HC HS'
    go_wp2
    go_ret
    exact ⟨rfl, H1.out, H2.out⟩

set_option maxHeartbeats 400000 in
theorem mark_apiPair (B : Nat) (g : Option Nat) (ks : List Int) (R : Nat → Option RecO) (X : Nat → Option ScxO) (w : World) (h : RepapiPair w R X) (hg : GAtI w B g ks) (hbB : B ≤ w.heap.size) (hl : ks.length ≤ 1000000000) (b : Nat) (o : RecO) (ho : R b = some o) :
    Calls Try.prog 63 #[pv (some b), gvI g] w fun e w' => e = .returned (.tuple #[]) ∧ StepI B g w w' (ks ++ [2]) (fun k => k = b) ∧ RepapiPair w' (upd R b { o with mark := true }) X := by
  have C := mark_store_true B g ks b 4 86 _ w hg hbB hl (h.recs b o ho).1 (by decide) (by decide) _ (h.at_ ho 2)
  have HS : ∀ w', StepI B g w w' (ks ++ [2]) (fun k => k = b) → Blk w' b 86 (o.cells.set 4 (.int .u32 1)) → RepapiPair w' (upd R b { o with mark := true }) X := fun w' hs hb => by
    refine h.setRec tys_apiPair hg ho hs rfl rfl rfl ?_ (fun x e => h.ki b o ho x e)
    rw [show 4 = 2 + 2 from rfl, o.set_tail (h.recs b o ho).2] at hb
    exact hb
  have HC := Lib.hid C
  have HS' := Lib.hid HS
  clear C HS h hg
  show Calls Try.prog 63 #[.pointer (some ⟨b, 0, none⟩), gvI g] w _
  go_enter Try.func63, Try.ntmps63
  go_wp2_with fail
  refine HC.out.mono ?_
  rintro e w1 ⟨rfl, H, hb⟩
  have H2 := Lib.hid (HS'.out w1 H hb)
  have H1 := Lib.hid H
  clear H HC HS' hb
  go_wp2
  go_end0
  exact ⟨rfl, H1.out, H2.out⟩

set_option maxHeartbeats 400000 in
theorem commit_apiPair (B : Nat) (g : Option Nat) (ks : List Int) (R : Nat → Option RecO) (X : Nat → Option ScxO) (w : World) (h : RepapiPair w R X) (hg : GAtI w B g ks) (hbB : B ≤ w.heap.size) (hl : ks.length ≤ 1000000000) (b : Nat) (o : ScxO) (ho : X b = some o) :
    Calls Try.prog 65 #[pv (some b), gvI g] w fun e w' => e = .returned (.tuple #[]) ∧ StepI B g w w' (ks ++ [2]) (fun k => k = b) ∧ RepapiPair w' R (upd X b { o with state := 1 }) := by
  have C := num_store B g ks b 7 116 _ w hg hbB hl (h.scx b o ho) (by decide) (by decide) 1 (by decide) (by decide) (.int .i64 o.state) rfl
  have HS : ∀ w', StepI B g w w' (ks ++ [2]) (fun k => k = b) → Blk w' b 116 (o.cells.set 7 (.int .i64 1)) → RepapiPair w' R (upd X b { o with state := 1 }) := fun w' hs hb => by
    exact h.setScx tys_apiPair hg ho hs hb
  have HC := Lib.hid C
  have HS' := Lib.hid HS
  clear C HS h hg
  show Calls Try.prog 65 #[.pointer (some ⟨b, 0, none⟩), gvI g] w _
  go_enter Try.func65, Try.ntmps65
  go_wp2_with fail
  refine HC.out.mono ?_
  rintro e w1 ⟨rfl, H, hb⟩
  have H2 := Lib.hid (HS'.out w1 H hb)
  have H1 := Lib.hid H
  clear H HC HS' hb
  go_wp2
  go_end0
  exact ⟨rfl, H1.out, H2.out⟩

set_option maxHeartbeats 400000 in
theorem abort_apiPair (B : Nat) (g : Option Nat) (ks : List Int) (R : Nat → Option RecO) (X : Nat → Option ScxO) (w : World) (h : RepapiPair w R X) (hg : GAtI w B g ks) (hbB : B ≤ w.heap.size) (hl : ks.length ≤ 1000000000) (b : Nat) (o : ScxO) (ho : X b = some o) :
    Calls Try.prog 61 #[pv (some b), gvI g] w fun e w' => e = .returned (.tuple #[]) ∧ StepI B g w w' (ks ++ [2]) (fun k => k = b) ∧ RepapiPair w' R (upd X b { o with state := 2 }) := by
  have C := num_store B g ks b 7 116 _ w hg hbB hl (h.scx b o ho) (by decide) (by decide) 2 (by decide) (by decide) (.int .i64 o.state) rfl
  have HS : ∀ w', StepI B g w w' (ks ++ [2]) (fun k => k = b) → Blk w' b 116 (o.cells.set 7 (.int .i64 2)) → RepapiPair w' R (upd X b { o with state := 2 }) := fun w' hs hb => by
    exact h.setScx tys_apiPair hg ho hs hb
  have HC := Lib.hid C
  have HS' := Lib.hid HS
  clear C HS h hg
  show Calls Try.prog 61 #[.pointer (some ⟨b, 0, none⟩), gvI g] w _
  go_enter Try.func61, Try.ntmps61
  go_wp2_with fail
  refine HC.out.mono ?_
  rintro e w1 ⟨rfl, H, hb⟩
  have H2 := Lib.hid (HS'.out w1 H hb)
  have H1 := Lib.hid H
  clear H HC HS' hb
  go_wp2
  go_end0
  exact ⟨rfl, H1.out, H2.out⟩

set_option maxHeartbeats 400000 in
theorem setallfrozen_apiPair (B : Nat) (g : Option Nat) (ks : List Int) (R : Nat → Option RecO) (X : Nat → Option ScxO) (w : World) (h : RepapiPair w R X) (hg : GAtI w B g ks) (hbB : B ≤ w.heap.size) (hl : ks.length ≤ 1000000000) (b : Nat) (o : ScxO) (ho : X b = some o) :
    Calls Try.prog 62 #[pv (some b), gvI g] w fun e w' => e = .returned (.tuple #[]) ∧ StepI B g w w' (ks ++ [2]) (fun k => k = b) ∧ RepapiPair w' R (upd X b { o with frozen := true }) := by
  have C := mark_store_true B g ks b 8 116 _ w hg hbB hl (h.scx b o ho) (by decide) (by decide) (u32b o.frozen) rfl
  have HS : ∀ w', StepI B g w w' (ks ++ [2]) (fun k => k = b) → Blk w' b 116 (o.cells.set 8 (.int .u32 1)) → RepapiPair w' R (upd X b { o with frozen := true }) := fun w' hs hb => by
    exact h.setScx tys_apiPair hg ho hs hb
  have HC := Lib.hid C
  have HS' := Lib.hid HS
  clear C HS h hg
  show Calls Try.prog 62 #[.pointer (some ⟨b, 0, none⟩), gvI g] w _
  go_enter Try.func62, Try.ntmps62
  go_wp2_with fail
  refine HC.out.mono ?_
  rintro e w1 ⟨rfl, H, hb⟩
  have H2 := Lib.hid (HS'.out w1 H hb)
  have H1 := Lib.hid H
  clear H HC HS' hb
  go_wp2
  go_end0
  exact ⟨rfl, H1.out, H2.out⟩

set_option maxHeartbeats 400000 in
theorem state_apiPair (B : Nat) (g : Option Nat) (ks : List Int) (R : Nat → Option RecO) (X : Nat → Option ScxO) (w : World) (h : RepapiPair w R X) (hg : GAtI w B g ks) (hbB : B ≤ w.heap.size) (hl : ks.length ≤ 1000000000) (b : Nat) (o : ScxO) (ho : X b = some o) (n0 : 0 ≤ o.state) (n1 : o.state ≤ 1000) :
    Calls Try.prog 68 #[pv (some b), gvI g] w fun e w' => e = .returned (.int .i64 o.state) ∧ StepI B g w w' (ks ++ [1]) (fun _ => False) ∧ RepapiPair w' R X := by
  have C := num_load B g ks b 7 116 _ w hg hbB hl (h.scx b o ho) (by decide) (by decide) o.state n0 n1 rfl
  have HS := fun w' hs => h.step tys_apiPair hg (w' := w') (ks' := ks ++ [1]) hs
  clear h hg
  show Calls Try.prog 68 #[.pointer (some ⟨b, 0, none⟩), gvI g] w _
  have HC := Lib.hid C
  have HS' := Lib.hid HS
  clear C HS
  go_enter Try.func68, Try.ntmps68
  go_wp2_with fail
  refine HC.out.mono ?_
  rintro e w1 ⟨rfl, H⟩
  have H2 := Lib.hid (HS'.out w1 H)
  have H1 := Lib.hid H
  clear H HC HS'
  go_wp2
  go_ret
  exact ⟨rfl, H1.out, H2.out⟩

set_option maxHeartbeats 400000 in
theorem getn_apiPair (R : Nat → Option RecO) (X : Nat → Option ScxO) (w : World) (h : RepapiPair w R X)  (b : Nat) (o : RecO) (ho : R b = some o) (i : Int) (i0 : 0 ≤ i) (i1 : i < o.fields.length) :
    Calls Try.prog 33 #[pv (some b), .nilIface, .int .i64 i] w fun e w' => e = .returned (pv (o.fields.getD i.toNat none)) ∧ w = w' := by
  have hc : w.cell? ⟨b, 2, none⟩ = some (.slice (some ⟨o.fb, 0, none⟩) o.fields.length o.fields.length) := h.cell ho 0
  have hlt : i.toNat < o.fields.length := by omega
  have hx0 : o.fields[i.toNat]? = some (o.fields.getD i.toNat none) := by simp [List.getD_eq_getElem?_getD, List.getElem?_eq_getElem hlt]
  have hx : (o.fields.map pv)[i.toNat]? = some (pv (o.fields.getD i.toNat none)) := by rw [List.getElem?_map, hx0]; rfl
  have C := cell_loadn_RecordapiPair o.fb i.toNat 106 _ w (h.fld b o ho) _ hx (h.recPtr (h.okField ho hx0))
  generalize o.fields.getD i.toNat none = p at *
  have HC := Lib.hid C
  clear C h hx hx0
  show Calls Try.prog 33 #[.pointer (some ⟨b, 0, none⟩), .nilIface, .int .i64 i] w _
  go_enter Try.func33, Try.ntmps33
  go_wp2_with fail
  refine HC.out.mono ?_
  rintro e w1 ⟨rfl, rfl⟩
  clear HC
  go_wp2
  go_ret
  exact ⟨rfl, rfl⟩

set_option maxHeartbeats 400000 in
theorem infon_apiPair (R : Nat → Option RecO) (X : Nat → Option ScxO) (w : World) (h : RepapiPair w R X)  (b : Nat) (o : RecO) (ho : R b = some o) :
    Calls Try.prog 44 #[pv (some b), .nilIface] w fun e w' => e = .returned (pv o.info) ∧ w = w' := by
  have C := cell_loadn_ScxapiPair b 3 86 _ w (h.recs b o ho).1 o.info (h.at_ ho 1) (h.scxPtr (h.okInfo ho))
  have HC := Lib.hid C
  clear C h
  show Calls Try.prog 44 #[.pointer (some ⟨b, 0, none⟩), .nilIface] w _
  go_enter Try.func44, Try.ntmps44
  go_wp2_with fail
  refine HC.out.mono ?_
  rintro e w1 ⟨rfl, rfl⟩
  clear HC
  go_wp2
  go_ret
  exact ⟨rfl, rfl⟩

set_option maxHeartbeats 400000 in
theorem staten_apiPair (R : Nat → Option RecO) (X : Nat → Option ScxO) (w : World) (h : RepapiPair w R X)  (b : Nat) (o : ScxO) (ho : X b = some o) (n0 : 0 ≤ o.state) (n1 : o.state ≤ 1000) :
    Calls Try.prog 68 #[pv (some b), .nilIface] w fun e w' => e = .returned (.int .i64 o.state) ∧ w = w' := by
  have C := num_loadn b 7 116 _ w (h.scx b o ho) o.state n0 n1 rfl
  have HC := Lib.hid C
  clear C h
  show Calls Try.prog 68 #[.pointer (some ⟨b, 0, none⟩), .nilIface] w _
  go_enter Try.func68, Try.ntmps68
  go_wp2_with fail
  refine HC.out.mono ?_
  rintro e w1 ⟨rfl, rfl⟩
  clear HC
  go_wp2
  go_ret
  exact ⟨rfl, rfl⟩

set_option maxHeartbeats 400000 in
theorem markedn_false_apiPair (R : Nat → Option RecO) (X : Nat → Option ScxO) (w : World) (h : RepapiPair w R X)  (b : Nat) (o : RecO) (ho : R b = some o) (hm : o.mark = false) :
    Calls Try.prog 67 #[pv (some b), .nilIface] w fun e w' => e = .returned (.bool false) ∧ w = w' := by
  have C := mark_loadn_false b 4 86 _ w (h.recs b o ho).1 (by rw [show 4 = 2 + 2 from rfl, h.at_ ho 2]; simp [RecO.tail, u32b, hm])
  have HC := Lib.hid C
  clear C h hm
  show Calls Try.prog 67 #[.pointer (some ⟨b, 0, none⟩), .nilIface] w _
  go_enter Try.func67, Try.ntmps67
  go_wp2_with fail
  refine HC.out.mono ?_
  rintro e w1 ⟨rfl, rfl⟩
  clear HC
  go_wp2
  go_ret
  exact ⟨rfl, rfl⟩

set_option maxHeartbeats 400000 in
theorem allfrozenn_false_apiPair (R : Nat → Option RecO) (X : Nat → Option ScxO) (w : World) (h : RepapiPair w R X)  (b : Nat) (o : ScxO) (ho : X b = some o) (hm : o.frozen = false) :
    Calls Try.prog 60 #[pv (some b), .nilIface] w fun e w' => e = .returned (.bool false) ∧ w = w' := by
  have C := mark_loadn_false b 8 116 _ w (h.scx b o ho) (by simp [ScxO.cells, u32b, hm])
  have HC := Lib.hid C
  clear C h hm
  show Calls Try.prog 60 #[.pointer (some ⟨b, 0, none⟩), .nilIface] w _
  go_enter Try.func60, Try.ntmps60
  go_wp2_with fail
  refine HC.out.mono ?_
  rintro e w1 ⟨rfl, rfl⟩
  clear HC
  go_wp2
  go_ret
  exact ⟨rfl, rfl⟩

set_option maxHeartbeats 400000 in
theorem markedn_true_apiPair (R : Nat → Option RecO) (X : Nat → Option ScxO) (w : World) (h : RepapiPair w R X)  (b : Nat) (o : RecO) (ho : R b = some o) (hm : o.mark = true) :
    Calls Try.prog 67 #[pv (some b), .nilIface] w fun e w' => e = .returned (.bool true) ∧ w = w' := by
  have C := mark_loadn_true b 4 86 _ w (h.recs b o ho).1 (by rw [show 4 = 2 + 2 from rfl, h.at_ ho 2]; simp [RecO.tail, u32b, hm])
  have HC := Lib.hid C
  clear C h hm
  show Calls Try.prog 67 #[.pointer (some ⟨b, 0, none⟩), .nilIface] w _
  go_enter Try.func67, Try.ntmps67
  go_wp2_with fail
  refine HC.out.mono ?_
  rintro e w1 ⟨rfl, rfl⟩
  clear HC
  go_wp2
  go_ret
  exact ⟨rfl, rfl⟩

set_option maxHeartbeats 400000 in
theorem allfrozenn_true_apiPair (R : Nat → Option RecO) (X : Nat → Option ScxO) (w : World) (h : RepapiPair w R X)  (b : Nat) (o : ScxO) (ho : X b = some o) (hm : o.frozen = true) :
    Calls Try.prog 60 #[pv (some b), .nilIface] w fun e w' => e = .returned (.bool true) ∧ w = w' := by
  have C := mark_loadn_true b 8 116 _ w (h.scx b o ho) (by simp [ScxO.cells, u32b, hm])
  have HC := Lib.hid C
  clear C h hm
  show Calls Try.prog 60 #[.pointer (some ⟨b, 0, none⟩), .nilIface] w _
  go_enter Try.func60, Try.ntmps60
  go_wp2_with fail
  refine HC.out.mono ?_
  rintro e w1 ⟨rfl, rfl⟩
  clear HC
  go_wp2
  go_ret
  exact ⟨rfl, rfl⟩
end Go.Proofs.Yteeficpjggimcaa

/- What one help does to the records in memory, by blocks. No walk. -/
namespace Go.Proofs.Yteeficpjggimcaa
open Go.RowKit Go.Proofs.YteeficpjggimcaaW.PrintWords
set_option linter.unusedVariables false
set_option linter.unusedSimpArgs false

theorem gnil (w : World) : GAtI w 0 none [] := fun t e => by cases e
theorem upd_upd {α : Type} (R : Nat → Option α) (b : Nat) (o o' : α) : upd (upd R b o) b o' = upd R b o' := by
  funext k; unfold upd; split <;> rfl
theorem getD_mem {α : Type} {l : List α} {i : Nat} (h : i < l.length) (x : α) : l.getD i x ∈ l := by
  rw [List.getD_eq_getElem?_getD, List.getElem?_eq_getElem h]; exact List.getElem_mem h
/-- The record at a block. -/
def rg (R : Nat → Option RecO) (b : Nat) : RecO := (R b).getD ⟨[], 0, [], none, false⟩
theorem rg_some {R : Nat → Option RecO} {b : Nat} (h : (R b).isSome) : R b = some (rg R b) := by
  obtain ⟨o, ho⟩ := Option.isSome_iff_exists.1 h
  rw [ho]; unfold rg; rw [ho]; rfl
theorem rg_of {R : Nat → Option RecO} {b : Nat} {o : RecO} (h : R b = some o) : rg R b = o := by unfold rg; rw [h]; rfl
theorem upd_same {α : Type} {R : Nat → Option α} {b : Nat} {o : α} (h : R b = some o) : upd R b o = R := by
  funext k; unfold upd; split
  · subst k; exact h.symm
  · rfl
theorem rg_upd (R : Nat → Option RecO) (b k : Nat) (o : RecO) : rg (upd R b o) k = if k = b then o else rg R k := by
  unfold rg upd; split <;> rfl
theorem upd_isSome {α : Type} {R : Nat → Option α} {b k : Nat} (o : α) (h : (R k).isSome) : (upd R b o k).isSome := by
  unfold upd; split
  · rfl
  · exact h
/-- The SCX-record s freezes the records (r, i) one behind the other: did it get through, the records then, the kinds. -/
def frzR (s : Nat) : (Nat → Option RecO) → List (Nat × Option Nat) → Bool × (Nat → Option RecO) × List Int
  | R, [] => (true, R, [])
  | R, (r, i) :: l =>
    if (rg R r).info = i then let x := frzR s (upd R r { rg R r with info := some s }) l; (x.1, x.2.1, 5 :: x.2.2)
    else if (rg R r).info = some s then let x := frzR s R l; (x.1, x.2.1, 5 :: 1 :: x.2.2)
    else (false, R, [5, 1])
/-- The marks. -/
def mrkR : (Nat → Option RecO) → List (Nat × Bool) → (Nat → Option RecO) × List Int
  | R, [] => (R, [])
  | R, (r, f) :: l => if f then let x := mrkR (upd R r { rg R r with mark := true }) l; (x.1, 2 :: x.2) else mrkR R l
/-- The field. -/
def swgR (R : Nat → Option RecO) (r f : Nat) (old new : Option Nat) : Nat → Option RecO := upd R r { rg R r with fields := if (rg R r).fields.getD f none = old then (rg R r).fields.set f new else (rg R r).fields }
/-- One help. -/
def helpR (R : Nat → Option RecO) (X : Nat → Option ScxO) (s : Nat) (o : ScxO) (vs : List Nat) (is : List (Option Nat)) (fs : List Bool) : Bool × List Int × (Nat → Option RecO) × (Nat → Option ScxO) :=
  let x := frzR s R (vs.zip is)
  if x.1 then
    let m := mrkR x.2.1 (vs.zip fs)
    (true, x.2.2 ++ 2 :: (m.2 ++ [5, 2]), swgR m.1 (vs.getD o.at_.toNat 0) o.fld.toNat o.old o.new, upd X s { o with frozen := true, state := 1 })
  else if o.frozen then (true, x.2.2 ++ [1], x.2.1, X)
  else (false, x.2.2 ++ [1, 2], x.2.1, upd X s { o with state := 2 })

theorem frz_fresh (s : Nat) (f : Nat → Option Nat) : ∀ (vs : List Nat) (R : Nat → Option RecO), (∀ r ∈ vs, (rg R r).info = f r ∨ (rg R r).info = some s) →
    (frzR s R (vs.zip (vs.map f))).1 = true ∧ (∀ k, rg (frzR s R (vs.zip (vs.map f))).2.1 k = if k ∈ vs then { rg R k with info := some s } else rg R k) := fun vs => by
  induction vs with
  | nil => intro R _; exact ⟨rfl, fun k => by simp [frzR]⟩
  | cons r vs ih =>
    intro R h
    simp only [List.map_cons, List.zip_cons_cons, frzR]
    by_cases h1 : (rg R r).info = f r
    · rw [if_pos h1]
      obtain ⟨e1, e2⟩ := ih (upd R r { rg R r with info := some s }) (fun k hk => by
        rw [rg_upd]
        split
        · exact .inr rfl
        · exact h k (List.mem_cons_of_mem _ hk))
      refine ⟨e1, fun k => ?_⟩
      simp only [e2, rg_upd]
      by_cases hk : k = r
      · subst hk
        simp
      · simp [hk]
    · rw [if_neg h1]
      have h2 := (h r (List.mem_cons_self ..)).resolve_left h1
      rw [if_pos h2]
      obtain ⟨e1, e2⟩ := ih R (fun k hk => h k (List.mem_cons_of_mem _ hk))
      refine ⟨e1, fun k => ?_⟩
      simp only [e2]
      by_cases hk : k = r
      · subst hk
        have : ({ rg R k with info := some s } : RecO) = rg R k := by rw [← h2]
        simp [this]
      · simp [hk]
theorem frz_some (s : Nat) : ∀ (L : List (Nat × Option Nat)) (R : Nat → Option RecO) (k : Nat), (R k).isSome → ((frzR s R L).2.1 k).isSome := fun L => by
  induction L with
  | nil => intro R k h; exact h
  | cons x L ih =>
    intro R k h
    obtain ⟨r, i⟩ := x
    simp only [frzR]
    split
    · exact ih _ _ (upd_isSome _ h)
    · split
      · exact ih _ _ h
      · exact h
def mkOf (L : List (Nat × Bool)) (k : Nat) : Bool := L.any fun x => x.1 == k && x.2
theorem mrk_rg : ∀ (L : List (Nat × Bool)) (R : Nat → Option RecO) (k : Nat), rg (mrkR R L).1 k = { rg R k with mark := (rg R k).mark || mkOf L k } := fun L => by
  induction L with
  | nil => intro R k; simp [mrkR, mkOf]
  | cons x L ih =>
    intro R k
    obtain ⟨r, f⟩ := x
    cases f with
    | false => simp only [mrkR]; rw [if_neg (by simp), ih]; simp [mkOf]
    | true =>
      simp only [mrkR, if_true, ih, rg_upd]
      by_cases hk : k = r
      · subst hk; simp [mkOf]
      · simp only [if_neg hk, mkOf, List.any_cons, Bool.and_true]
        rw [show (r == k) = false by simpa using fun e => hk e.symm, Bool.false_or]
theorem mrk_some : ∀ (L : List (Nat × Bool)) (R : Nat → Option RecO) (k : Nat), (R k).isSome → ((mrkR R L).1 k).isSome := fun L => by
  induction L with
  | nil => intro R k h; exact h
  | cons x L ih =>
    intro R k h
    obtain ⟨r, f⟩ := x
    simp only [mrkR]
    split
    · exact ih _ _ (upd_isSome _ h)
    · exact ih _ _ h
theorem zip_map_fst {α β γ : Type} (g : α → γ) : ∀ (l : List α) (m : List β), (l.map g).zip m = (l.zip m).map fun x => (g x.1, x.2) := fun l => by
  induction l with
  | nil => intro m; rfl
  | cons a l ih => intro m; cases m with
    | nil => rfl
    | cons b m => simp only [List.map_cons, List.zip_cons_cons, ih]
end Go.Proofs.Yteeficpjggimcaa

/- help: Help, by a gate, on records of larch/api.Pair: what helpR computes. -/
namespace Go.Proofs.Yteeficpjggimcaa
open Go.RowKit Go.Proofs.YteeficpjggimcaaW.PrintWords
set_option linter.unusedVariables false
set_option linter.unusedSimpArgs false

abbrev THRapiPair : Nat := 58
abbrev THXapiPair : Nat := 71
theorem hsz_apiPair : ∃ i, Try.prog.info? 116 = some i ∧ i.size ≠ 0 := by
  obtain ⟨i, hi, hz⟩ := Option.map_eq_some_iff.1 size_ScxapiPair
  exact ⟨i, hi, by simpa using hz⟩
/-- An SCX-record's three rows in memory: the records vs, the infos is, the flags fs. -/
structure RowsapiPair (w : World) (o : ScxO) (vs : List Nat) (is : List (Option Nat)) (fs : List Bool) (bv bi bf cv ci cf : Nat) (rv ri rf : List Value) : Prop where
  ev : o.sv = .slice (some ⟨bv, 0, none⟩) vs.length cv
  ei : o.si = .slice (some ⟨bi, 0, none⟩) vs.length ci
  ef : o.sf = .slice (some ⟨bf, 0, none⟩) vs.length cf
  hv : Blk w bv THRapiPair ((vs.map fun b => pv (some b)) ++ rv)
  hi : Blk w bi THXapiPair (is.map pv ++ ri)
  hf : Blk w bf 4 (fs.map Value.bool ++ rf)
  li : is.length = vs.length
  lf : fs.length = vs.length
/-- What a help may turn: the records of vs, one's fields, the SCX-record. -/
def HelpSapiPair (vs : List Nat) (fb s : Nat) (k : Nat) : Prop := k ∈ vs ∨ k = fb ∨ k = s
/-- While Help goes. -/
structure HAtapiPair (B : Nat) (g : Option Nat) (s fb : Nat) (vs : List Nat) (is : List (Option Nat)) (fs : List Bool) (w0 : World) (bv bi bf cv ci cf : Nat) (rv ri rf : List Value) (w : World) (ks : List Int) (R : Nat → Option RecO) (X : Nat → Option ScxO) (o : ScxO) : Prop where
  g0 : B ≤ w0.heap.size
  g1 : GAtI w B g ks
  st : StepI B g w0 w ks (HelpSapiPair vs fb s)
  rep : RepapiPair w R X
  rows : RowsapiPair w o vs is fs bv bi bf cv ci cf rv ri rf
  xs : X s = some o
  vsR : ∀ r ∈ vs, (R r).isSome
  isX : ∀ i ∈ is, Ok X i
  okO : Ok R o.old
  okN : Ok R o.new
  at0 : 0 ≤ o.at_
  at1 : o.at_ < vs.length
  fl0 : 0 ≤ o.fld
  fl1 : o.fld < (rg R (vs.getD o.at_.toNat 0)).fields.length
  fbe : (rg R (vs.getD o.at_.toNat 0)).fb = fb
section
variable {w w' w0 : World} {B s r : Nat} {g : Option Nat} {ks ks' : List Int} {R R' : Nat → Option RecO} {X X' : Nat → Option ScxO} {o : ScxO} {vs : List Nat} {is : List (Option Nat)} {fs : List Bool} {bv bi bf cv ci cf fb : Nat} {rv ri rf : List Value}
theorem HAtapiPair.size (h : HAtapiPair B g s fb vs is fs w0 bv bi bf cv ci cf rv ri rf w ks R X o) : B ≤ w.heap.size := Nat.le_trans h.g0 h.st.fr.size
theorem HAtapiPair.vat (h : HAtapiPair B g s fb vs is fs w0 bv bi bf cv ci cf rv ri rf w ks R X o) : vs.getD o.at_.toNat 0 ∈ vs := getD_mem (by have := h.at0; have := h.at1; omega) 0
theorem HAtapiPair.blkS (h : HAtapiPair B g s fb vs is fs w0 bv bi bf cv ci cf rv ri rf w ks R X o) {k : Nat} (hk : HelpSapiPair vs fb s k) : ∃ T ys, Blk w k T ys ∧ T ≠ THRapiPair ∧ T ≠ THXapiPair ∧ T ≠ 4 := by
  rcases hk with hk | rfl | rfl
  · exact ⟨_, _, (h.rep.recs _ _ (rg_some (h.vsR _ hk))).1, by decide, by decide, by decide⟩
  · have := h.rep.fld _ _ (rg_some (h.vsR _ h.vat))
    rw [h.fbe] at this
    exact ⟨_, _, this, by decide, by decide, by decide⟩
  · exact ⟨_, _, h.rep.scx _ _ h.xs, by decide, by decide, by decide⟩
theorem RowsapiPair.fr (h : RowsapiPair w o vs is fs bv bi bf cv ci cf rv ri rf) (hg : GAtI w B g ks) {S : Nat → Prop} (hs : StepI B g w w' ks' S) (hS : ∀ k, S k → ∃ T ys, Blk w k T ys ∧ T ≠ THRapiPair ∧ T ≠ THXapiPair ∧ T ≠ 4) : RowsapiPair w' o vs is fs bv bi bf cv ci cf rv ri rf :=
  ⟨h.ev, h.ei, h.ef, hs.blk hg h.hv (by decide) (by decide) (fun hk => by obtain ⟨T, ys, hb, h1, _⟩ := hS _ hk; exact h1 (hb.inj h.hv).1),
    hs.blk hg h.hi (by decide) (by decide) (fun hk => by obtain ⟨T, ys, hb, _, h1, _⟩ := hS _ hk; exact h1 (hb.inj h.hi).1),
    hs.blk hg h.hf (by decide) (by decide) (fun hk => by obtain ⟨T, ys, hb, _, _, h1⟩ := hS _ hk; exact h1 (hb.inj h.hf).1), h.li, h.lf⟩
theorem RowsapiPair.cong {o' : ScxO} (h : RowsapiPair w o vs is fs bv bi bf cv ci cf rv ri rf) (h1 : o'.sv = o.sv) (h2 : o'.si = o.si) (h3 : o'.sf = o.sf) : RowsapiPair w o' vs is fs bv bi bf cv ci cf rv ri rf :=
  ⟨h1.trans h.ev, h2.trans h.ei, h3.trans h.ef, h.hv, h.hi, h.hf, h.li, h.lf⟩
/-- Nothing but the gate has turned. -/
theorem HAtapiPair.same (h : HAtapiPair B g s fb vs is fs w0 bv bi bf cv ci cf rv ri rf w ks R X o) (hs : StepI B g w w' ks' (fun _ => False)) (hr : RepapiPair w' R X) : HAtapiPair B g s fb vs is fs w0 bv bi bf cv ci cf rv ri rf w' ks' R X o :=
  ⟨h.g0, hs.gate, h.st.trans hs (fun _ _ hk => hk.elim), hr, h.rows.fr h.g1 hs (fun _ hk => hk.elim), h.xs, h.vsR, h.isX, h.okO, h.okN, h.at0, h.at1, h.fl0, h.fl1, h.fbe⟩
/-- One of the records has turned, but for its fields. -/
theorem HAtapiPair.turnR (h : HAtapiPair B g s fb vs is fs w0 bv bi bf cv ci cf rv ri rf w ks R X o) (hm : r ∈ vs) (hs : StepI B g w w' ks' (fun k => k = r)) {q : RecO} (hr : RepapiPair w' (upd R r q) X) (h1 : q.fb = (rg R r).fb) (h2 : q.fields = (rg R r).fields) :
    HAtapiPair B g s fb vs is fs w0 bv bi bf cv ci cf rv ri rf w' ks' (upd R r q) X o :=
  ⟨h.g0, hs.gate, h.st.trans hs (fun k _ hk => .inl (hk ▸ hm)), hr, h.rows.fr h.g1 hs (fun k hk => h.blkS (.inl (hk ▸ hm))), h.xs, fun b hb => upd_isSome _ (h.vsR b hb), h.isX, h.okO.upd r q, h.okN.upd r q, h.at0, h.at1, h.fl0,
    by rw [rg_upd]; split
       · rw [h2, ← ‹_ = r›]; exact h.fl1
       · exact h.fl1,
    by rw [rg_upd]; split
       · rw [h1, ← ‹_ = r›]; exact h.fbe
       · exact h.fbe⟩
/-- The SCX-record has turned, but for what never changes. -/
theorem HAtapiPair.turnX (h : HAtapiPair B g s fb vs is fs w0 bv bi bf cv ci cf rv ri rf w ks R X o) (hs : StepI B g w w' ks' (fun k => k = s)) {q : ScxO} (hr : RepapiPair w' R (upd X s q)) (h1 : q.sv = o.sv) (h2 : q.si = o.si) (h3 : q.sf = o.sf) (h4 : q.at_ = o.at_) (h5 : q.fld = o.fld) (h6 : q.old = o.old) (h7 : q.new = o.new) :
    HAtapiPair B g s fb vs is fs w0 bv bi bf cv ci cf rv ri rf w' ks' R (upd X s q) q :=
  ⟨h.g0, hs.gate, h.st.trans hs (fun k _ hk => .inr (.inr hk)), hr, (h.rows.cong h1 h2 h3).fr h.g1 hs (fun k hk => h.blkS (.inr (.inr hk))), upd_self _ _ _, h.vsR, fun i hi => (h.isX i hi).upd s q, h6 ▸ h.okO, h7 ▸ h.okN, h4 ▸ h.at0, h4 ▸ h.at1, h5 ▸ h.fl0, h4 ▸ h5 ▸ h.fl1, h4 ▸ h.fbe⟩
theorem HAtapiPair.cv0 (h : HAtapiPair B g s fb vs is fs w0 bv bi bf cv ci cf rv ri rf w ks R X o) : w.cell? ⟨s, 0, none⟩ = some (.slice (some ⟨bv, 0, none⟩) vs.length cv) := by rw [(h.rep.scx _ _ h.xs).cell, ← h.rows.ev]; rfl
theorem HAtapiPair.ci0 (h : HAtapiPair B g s fb vs is fs w0 bv bi bf cv ci cf rv ri rf w ks R X o) : w.cell? ⟨s, 1, none⟩ = some (.slice (some ⟨bi, 0, none⟩) vs.length ci) := by rw [(h.rep.scx _ _ h.xs).cell, ← h.rows.ei]; rfl
theorem HAtapiPair.cf0 (h : HAtapiPair B g s fb vs is fs w0 bv bi bf cv ci cf rv ri rf w ks R X o) : w.cell? ⟨s, 2, none⟩ = some (.slice (some ⟨bf, 0, none⟩) vs.length cf) := by rw [(h.rep.scx _ _ h.xs).cell, ← h.rows.ef]; rfl
theorem HAtapiPair.c3 (h : HAtapiPair B g s fb vs is fs w0 bv bi bf cv ci cf rv ri rf w ks R X o) : w.cell? ⟨s, 3, none⟩ = some (.int .i64 o.at_) := by rw [(h.rep.scx _ _ h.xs).cell]; rfl
theorem HAtapiPair.c4 (h : HAtapiPair B g s fb vs is fs w0 bv bi bf cv ci cf rv ri rf w ks R X o) : w.cell? ⟨s, 4, none⟩ = some (.int .i64 o.fld) := by rw [(h.rep.scx _ _ h.xs).cell]; rfl
theorem HAtapiPair.c5 (h : HAtapiPair B g s fb vs is fs w0 bv bi bf cv ci cf rv ri rf w ks R X o) : w.cell? ⟨s, 5, none⟩ = some (pv o.old) := by rw [(h.rep.scx _ _ h.xs).cell]; rfl
theorem HAtapiPair.c6 (h : HAtapiPair B g s fb vs is fs w0 bv bi bf cv ci cf rv ri rf w ks R X o) : w.cell? ⟨s, 6, none⟩ = some (pv o.new) := by rw [(h.rep.scx _ _ h.xs).cell]; rfl
theorem HAtapiPair.vj (h : HAtapiPair B g s fb vs is fs w0 bv bi bf cv ci cf rv ri rf w ks R X o) {j : Nat} (hj : j < vs.length) : w.cell? ⟨bv, j, none⟩ = some (.pointer (some ⟨vs[j], 0, none⟩)) := by
  rw [h.rows.hv.cell, List.getElem?_append_left (by simpa using hj)]; simp [List.getElem?_eq_getElem hj, hd]
theorem HAtapiPair.ij (h : HAtapiPair B g s fb vs is fs w0 bv bi bf cv ci cf rv ri rf w ks R X o) {j : Nat} (hj : j < is.length) : w.cell? ⟨bi, j, none⟩ = some (pv is[j]) := by
  rw [h.rows.hi.cell, List.getElem?_append_left (by simpa using hj)]; simp [List.getElem?_eq_getElem hj]
theorem HAtapiPair.fj (h : HAtapiPair B g s fb vs is fs w0 bv bi bf cv ci cf rv ri rf w ks R X o) {j : Nat} (hj : j < fs.length) : w.cell? ⟨bf, j, none⟩ = some (.bool fs[j]) := by
  rw [h.rows.hf.cell, List.getElem?_append_left (by simpa using hj)]; simp [List.getElem?_eq_getElem hj]
/-- Freeze, where it goes through; where it doesn't. -/
theorem HAtapiPair.freeze_yes (h : HAtapiPair B g s fb vs is fs w0 bv bi bf cv ci cf rv ri rf w ks R X o) (hl : ks.length ≤ 1000000000) (hm : r ∈ vs) {i : Option Nat} (hi : i ∈ is) (he : (rg R r).info = i) :
    Calls Try.prog 59 #[.pointer (some ⟨r, 0, none⟩), gvI g, pv i, .pointer (some ⟨s, 0, none⟩)] w fun e w' => e = .returned (.bool true) ∧ HAtapiPair B g s fb vs is fs w0 bv bi bf cv ci cf rv ri rf w' (ks ++ [5]) (upd R r { rg R r with info := some s }) X o := by
  refine (freeze_apiPair B g ks R X w h.rep h.g1 h.size hl r _ (rg_some (h.vsR r hm)) i (some s) (h.isX i hi) (Ok.of h.xs)).mono ?_
  rintro e w1 ⟨rfl, hs, hr⟩
  rw [if_pos he] at hr
  exact ⟨by rw [decide_eq_true he], h.turnR hm hs hr rfl rfl⟩
theorem HAtapiPair.freeze_no (h : HAtapiPair B g s fb vs is fs w0 bv bi bf cv ci cf rv ri rf w ks R X o) (hl : ks.length ≤ 1000000000) (hm : r ∈ vs) {i : Option Nat} (hi : i ∈ is) (he : ¬ (rg R r).info = i) :
    Calls Try.prog 59 #[.pointer (some ⟨r, 0, none⟩), gvI g, pv i, .pointer (some ⟨s, 0, none⟩)] w fun e w' => e = .returned (.bool false) ∧ HAtapiPair B g s fb vs is fs w0 bv bi bf cv ci cf rv ri rf w' (ks ++ [5]) R X o := by
  have ho := rg_some (h.vsR r hm)
  refine (freeze_apiPair B g ks R X w h.rep h.g1 h.size hl r _ ho i (some s) (h.isX i hi) (Ok.of h.xs)).mono ?_
  rintro e w1 ⟨rfl, hs, hr⟩
  rw [if_neg he] at hr
  have := h.turnR hm hs hr rfl rfl
  rw [show ({ rg R r with info := (rg R r).info } : RecO) = rg R r from rfl, upd_same ho] at this
  exact ⟨by rw [decide_eq_false he], this⟩
theorem HAtapiPair.info_ (h : HAtapiPair B g s fb vs is fs w0 bv bi bf cv ci cf rv ri rf w ks R X o) (hl : ks.length ≤ 1000000000) (hm : r ∈ vs) :
    Calls Try.prog 44 #[.pointer (some ⟨r, 0, none⟩), gvI g] w fun e w' => e = .returned (pv (rg R r).info) ∧ HAtapiPair B g s fb vs is fs w0 bv bi bf cv ci cf rv ri rf w' (ks ++ [1]) R X o ∧ (binOp .eql THXapiPair (pv (rg R r).info) (.pointer (some ⟨s, 0, none⟩))).run Try.prog w' = .ok (.bool (decide ((rg R r).info = some s))) w' := by
  have ho := rg_some (h.vsR r hm)
  refine (info_apiPair B g ks R X w h.rep h.g1 h.size hl r _ ho).mono ?_
  rintro e w1 ⟨rfl, hs, hr⟩
  obtain ⟨i, hi, hsz⟩ := hsz_apiPair
  have kn : ∀ {x : Option Nat}, Ok X x → Known w1 x := fun {x} hx b e => by
    obtain ⟨q, hq⟩ := Option.isSome_iff_exists.1 (hx b e)
    exact ⟨_, _, hr.scx _ _ hq⟩
  exact ⟨rfl, h.same hs hr, run_eql_ptr (P := Try.prog) (w := w1) (x := (rg R r).info) (y := some s) Try.underlying71 hi hsz (kn (hr.okInfo ho)) (kn (Ok.of h.xs))⟩
end
section
variable {R R1 R2 : Nat → Option RecO} {X : Nat → Option ScxO} {s : Nat} {o : ScxO} {vs : List Nat} {is : List (Option Nat)} {fs : List Bool} {kk mk : List Int}
theorem helpR_fail (h : frzR s R (vs.zip is) = (false, R1, kk)) : helpR R X s o vs is fs = if o.frozen then (true, kk ++ [1], R1, X) else (false, kk ++ [1, 2], R1, upd X s { o with state := 2 }) := by
  unfold helpR; simp only [h]; rfl
theorem helpR_ok (h : frzR s R (vs.zip is) = (true, R1, kk)) (hm : mrkR R1 (vs.zip fs) = (R2, mk)) : helpR R X s o vs is fs = (true, kk ++ 2 :: (mk ++ [5, 2]), swgR R2 (vs.getD o.at_.toNat 0) o.fld.toNat o.old o.new, upd X s { o with frozen := true, state := 1 }) := by
  unfold helpR; simp only [h, hm]; rfl
/-- A round of the first loop. -/
def FrzTo (s : Nat) (L : List (Nat × Option Nat)) (R0 : Nat → Option RecO) (j : Nat) (kp : List Int) (R : Nat → Option RecO) : Prop := frzR s R0 L = ((frzR s R (L.drop j)).1, (frzR s R (L.drop j)).2.1, kp ++ (frzR s R (L.drop j)).2.2)
theorem FrzTo.zero (s : Nat) (L : List (Nat × Option Nat)) (R0 : Nat → Option RecO) : FrzTo s L R0 0 [] R0 := by unfold FrzTo; simp
theorem zip_drop {α β : Type} {l : List α} {m : List β} {j : Nat} (h1 : j < l.length) (h2 : j < m.length) : (l.zip m).drop j = (l[j], m[j]) :: (l.zip m).drop (j + 1) := by
  rw [List.drop_eq_getElem_cons (by simp; omega)]; simp
theorem FrzTo.yes {j : Nat} {kp : List Int} (h : FrzTo s (vs.zip is) R j kp R1) (h1 : j < vs.length) (h2 : j < is.length) (he : (rg R1 vs[j]).info = is[j]) : FrzTo s (vs.zip is) R (j + 1) (kp ++ [5]) (upd R1 vs[j] { rg R1 vs[j] with info := some s }) := by
  unfold FrzTo at h ⊢
  rw [h, zip_drop h1 h2]
  simp only [frzR, if_pos he, List.append_assoc, List.singleton_append]
theorem FrzTo.own {j : Nat} {kp : List Int} (h : FrzTo s (vs.zip is) R j kp R1) (h1 : j < vs.length) (h2 : j < is.length) (he : ¬ (rg R1 vs[j]).info = is[j]) (hs : (rg R1 vs[j]).info = some s) : FrzTo s (vs.zip is) R (j + 1) (kp ++ [5] ++ [1]) R1 := by
  unfold FrzTo at h ⊢
  rw [h, zip_drop h1 h2]
  simp only [frzR, if_neg he, if_pos hs, List.append_assoc, List.singleton_append, List.cons_append, List.nil_append]
theorem FrzTo.fail {j : Nat} {kp : List Int} (h : FrzTo s (vs.zip is) R j kp R1) (h1 : j < vs.length) (h2 : j < is.length) (he : ¬ (rg R1 vs[j]).info = is[j]) (hs : ¬ (rg R1 vs[j]).info = some s) : frzR s R (vs.zip is) = (false, R1, kp ++ [5] ++ [1]) := by
  unfold FrzTo at h
  rw [h, zip_drop h1 h2]
  simp only [frzR, if_neg he, if_neg hs, List.append_assoc, List.singleton_append]
theorem FrzTo.done {kp : List Int} (h : FrzTo s (vs.zip is) R vs.length kp R1) : frzR s R (vs.zip is) = (true, R1, kp) := by
  unfold FrzTo at h
  rw [h, List.drop_eq_nil_iff.2 (by simp; omega)]
  simp [frzR]
def MrkTo (L : List (Nat × Bool)) (R0 : Nat → Option RecO) (j : Nat) (kp : List Int) (R : Nat → Option RecO) : Prop := mrkR R0 L = ((mrkR R (L.drop j)).1, kp ++ (mrkR R (L.drop j)).2)
theorem MrkTo.zero (L : List (Nat × Bool)) (R0 : Nat → Option RecO) : MrkTo L R0 0 [] R0 := by unfold MrkTo; simp
theorem MrkTo.yes {j : Nat} {kp : List Int} (h : MrkTo (vs.zip fs) R j kp R1) (h1 : j < vs.length) (h2 : j < fs.length) (he : fs[j] = true) : MrkTo (vs.zip fs) R (j + 1) (kp ++ [2]) (upd R1 vs[j] { rg R1 vs[j] with mark := true }) := by
  unfold MrkTo at h ⊢
  rw [h, zip_drop h1 h2]
  simp only [mrkR, he, if_true, List.append_assoc, List.singleton_append]
theorem MrkTo.no {j : Nat} {kp : List Int} (h : MrkTo (vs.zip fs) R j kp R1) (h1 : j < vs.length) (h2 : j < fs.length) (he : fs[j] = false) : MrkTo (vs.zip fs) R (j + 1) kp R1 := by
  unfold MrkTo at h ⊢
  rw [h, zip_drop h1 h2]
  simp only [mrkR, he, Bool.false_eq_true, if_false]
theorem MrkTo.done {kp : List Int} (h : MrkTo (vs.zip fs) R vs.length kp R1) : mrkR R (vs.zip fs) = (R1, kp) := by
  unfold MrkTo at h
  rw [h, List.drop_eq_nil_iff.2 (by simp; omega)]
  simp [mrkR]
end

set_option maxHeartbeats 4000000 in
set_option maxRecDepth 100000 in
theorem help_apiPair (B : Nat) (g : Option Nat) (ks : List Int) (R : Nat → Option RecO) (X : Nat → Option ScxO) (w : World) (s fb : Nat) (o : ScxO) (vs : List Nat) (is : List (Option Nat)) (fs : List Bool) (bv bi bf cv ci cf : Nat) (rv ri rf : List Value)
    (h : HAtapiPair B g s fb vs is fs w bv bi bf cv ci cf rv ri rf w ks R X o) (hl : ks.length ≤ 900000000) (hn : vs.length ≤ 1000000) :
    Calls Try.prog 52 #[gvI g, .pointer (some ⟨s, 0, none⟩)] w fun e w' => e = .returned (.bool (helpR R X s o vs is fs).1) ∧ StepI B g w w' (ks ++ (helpR R X s o vs is fs).2.1) (HelpSapiPair vs fb s) ∧ RepapiPair w' (helpR R X s o vs is fs).2.2.1 (helpR R X s o vs is fs).2.2.2 := by
  refine calls_hide fun Q HQ => ?_
  have HQ' := Lib.hid HQ
  have HH := Lib.hid h
  have HLI := Lib.hid h.rows.li
  have HLF := Lib.hid h.rows.lf
  clear HQ h
  go_enter Try.func52, Try.ntmps52
  have hc0 := HH.out.cv0
  go_wp2
  clear hc0
  go_loopw [14] (fun k wr => ∃ (j : Nat) (kp : List Int) (R1 : Nat → Option RecO), j ≤ vs.length ∧ k = .int .i64 j ∧ kp.length ≤ 2 * j ∧ FrzTo s (vs.zip is) R j kp R1 ∧ HAtapiPair B g s fb vs is fs w bv bi bf cv ci cf rv ri rf wr (ks ++ kp) R1 X o) (fun k _ => vs.length - (intOf k).toNat)
  case atStart => exact ⟨0, [], R, Nat.zero_le _, rfl, by simp, FrzTo.zero _ _ _, by simpa using HH.out⟩
  case round =>
    clear HH
    obtain ⟨j, kp, R1, hj, rfl, hkp, hF, hH⟩ := hrel
    have HF := Lib.hid hF
    have HH := Lib.hid hH
    have HK := Lib.hid (show (ks ++ kp).length ≤ 950000000 by simp; omega)
    clear hF hH
    by_cases hlt : j < vs.length
    · have hlt2 : j < is.length := by rw [HLI.out]; exact hlt
      have hcv := HH.out.vj hlt
      have hci := HH.out.ij hlt2
      have hc1 := HH.out.ci0
      have HM := Lib.hid (List.getElem_mem hlt)
      have HMI := Lib.hid (List.getElem_mem hlt2)
      have HY := Lib.hid (HF.out.yes hlt hlt2)
      have HO := Lib.hid (HF.out.own hlt hlt2)
      have HN := Lib.hid (HF.out.fail hlt hlt2)
      generalize vs[j] = r at *
      generalize is[j] = i at *
      clear hlt2 HF
      by_cases he : (rg R1 r).info = i
      · have HC := Lib.hid (HH.out.freeze_yes (by have := HK.out; omega) HM.out HMI.out he)
        have HY2 := Lib.hid (HY.out he)
        clear he HN HO HY HH HQ'
        go_wp2_with fail
        refine HC.out.mono ?_
        rintro e w1 ⟨rfl, hH⟩
        have HH := Lib.hid hH
        clear hH HC hcv hci hc1
        go_wp2
        go_roundw
        case rel => exact ⟨j + 1, _, _, by omega, by go_num, by simp; omega, HY2.out, by simpa using HH.out⟩
        case measure => simp [intOf]; omega
      · have HC := Lib.hid (HH.out.freeze_no (by have := HK.out; omega) HM.out HMI.out he)
        clear HY HH
        go_wp2_with fail
        refine HC.out.mono ?_
        rintro e w1 ⟨rfl, hH⟩
        have HI := Lib.hid (hH.info_ (by have := HK.out; simp at this ⊢; omega) HM.out)
        clear hH HC hcv hci hc1 HM HMI
        have HO2 := Lib.hid (HO.out he)
        have HN2 := Lib.hid (HN.out he)
        clear he HO HN
        go_wp2_with fail
        refine HI.out.mono ?_
        rintro e w2 ⟨rfl, hH, hcmp⟩
        have HH := Lib.hid hH
        clear hH HI
        by_cases hs : (rg R1 r).info = some s
        · rw [decide_eq_true hs] at hcmp
          have HO3 := Lib.hid (HO2.out hs)
          clear hs HO2 HN2 HQ'
          generalize (rg R1 r).info = q at *
          go_wp2
          go_roundw
          case rel => exact ⟨j + 1, _, _, by omega, by go_num, by simp; omega, HO3.out, by simpa using HH.out⟩
          case measure => simp [intOf]; omega
        · rw [decide_eq_false hs] at hcmp
          have HN3 := Lib.hid (helpR_fail (X := X) (o := o) (fs := fs) (HN2.out hs))
          clear hs HO2 HN2
          generalize (rg R1 r).info = q at *
          have HA := Lib.hid (allfrozen_apiPair B g _ R1 X w2 HH.out.rep HH.out.g1 HH.out.size (by have := HK.out; simp at this ⊢; omega) s o HH.out.xs)
          have hfz : o.frozen = true ∨ o.frozen = false := by cases o.frozen <;> simp
          rcases hfz with hfz | hfz
          · rw [hfz] at HA
            rw [if_pos hfz] at HN3
            rw [HN3.out] at HQ'
            clear hfz HN3
            go_wp2_with fail
            refine HA.out.mono ?_
            rintro e w3 ⟨rfl, hst, hrep⟩
            have HZ := Lib.hid (HQ'.out _ w3 ⟨rfl, by have := (HH.out.same hst hrep).st; simpa using this, hrep⟩)
            clear hst hrep HA HH HQ' hcmp
            go_wp2
            exact HZ.out
          · rw [hfz] at HA
            rw [if_neg (by simp [hfz])] at HN3
            rw [HN3.out] at HQ'
            clear hfz HN3
            go_wp2_with fail
            refine HA.out.mono ?_
            rintro e w3 ⟨rfl, hst, hrep⟩
            have HH2 := Lib.hid (HH.out.same hst hrep)
            have HA2 := Lib.hid (abort_apiPair B g _ R1 X w3 HH2.out.rep HH2.out.g1 HH2.out.size (by have := HK.out; simp at this ⊢; omega) s o HH2.out.xs)
            clear hst hrep HA HH hcmp
            go_wp2_with fail
            refine HA2.out.mono ?_
            rintro e w4 ⟨rfl, hst, hrep⟩
            have HZ := Lib.hid (HQ'.out _ w4 ⟨rfl, by have := (HH2.out.turnX hst hrep rfl rfl rfl rfl rfl rfl rfl).st; simpa using this, hrep⟩)
            clear hst hrep HA2 HH2 HQ'
            go_wp2
            exact HZ.out
    · obtain rfl : j = vs.length := by omega
      have HD := Lib.hid HF.out.done
      have HA := Lib.hid (setallfrozen_apiPair B g _ R1 X wr HH.out.rep HH.out.g1 HH.out.size (by have := HK.out; omega) s o HH.out.xs)
      clear HF hlt hj
      go_wp2_with fail
      refine HA.out.mono ?_
      rintro e w1 ⟨rfl, hst, hrep⟩
      have HH1 := Lib.hid (HH.out.turnX hst hrep rfl rfl rfl rfl rfl rfl rfl)
      clear hst hrep HA HH
      have hc0 := HH1.out.cv0
      go_wp2
      clear hc0
      go_loopw [52] (fun k wr => ∃ (j : Nat) (mp : List Int) (R2 : Nat → Option RecO), j ≤ vs.length ∧ k = .int .i64 j ∧ mp.length ≤ j ∧ MrkTo (vs.zip fs) R1 j mp R2 ∧ HAtapiPair B g s fb vs is fs w bv bi bf cv ci cf rv ri rf wr (ks ++ kp ++ [2] ++ mp) R2 (upd X s { o with frozen := true }) { o with frozen := true }) (fun k _ => vs.length - (intOf k).toNat)
      case atStart => exact ⟨0, [], R1, Nat.zero_le _, rfl, by simp, MrkTo.zero _ _, by simpa using HH1.out⟩
      case round =>
        clear HH1
        obtain ⟨j, mp, R2, hj, rfl, hmp, hF, hH⟩ := hrel
        have HF := Lib.hid hF
        have HH := Lib.hid hH
        have HK2 := Lib.hid (show (ks ++ kp ++ [2] ++ mp).length ≤ 960000000 by have := HK.out; simp at this ⊢; omega)
        clear hF hH
        by_cases hlt : j < vs.length
        · have hlt2 : j < fs.length := by rw [HLF.out]; exact hlt
          have hcv := HH.out.vj hlt
          have hci := HH.out.fj hlt2
          have hc1 := HH.out.cf0
          have HM := Lib.hid (List.getElem_mem hlt)
          have HY := Lib.hid (HF.out.yes hlt hlt2)
          have HN := Lib.hid (HF.out.no hlt hlt2)
          generalize vs[j] = r at *
          generalize fs[j] = f at *
          clear HF
          cases f with
          | true =>
            have HC := Lib.hid (mark_apiPair B g _ R2 _ wr HH.out.rep HH.out.g1 HH.out.size (by have := HK2.out; omega) r _ (rg_some (HH.out.vsR r HM.out)))
            have HY2 := Lib.hid (HY.out rfl)
            clear HY HN HQ'
            go_wp2_with fail
            refine HC.out.mono ?_
            rintro e w2 ⟨rfl, hst, hrep⟩
            have HH2 := Lib.hid (HH.out.turnR HM.out hst hrep rfl rfl)
            clear hst hrep HC HH hcv hci hc1
            go_wp2
            go_roundw
            case rel => exact ⟨j + 1, _, _, by omega, by go_num, by simp; omega, HY2.out, by simpa using HH2.out⟩
            case measure => simp [intOf]; omega
          | false =>
            have HY2 := Lib.hid (HN.out rfl)
            clear HY HN HQ'
            go_wp2
            go_roundw
            case rel => exact ⟨j + 1, _, _, by omega, by go_num, by omega, HY2.out, HH.out⟩
            case measure => simp [intOf]; omega
        · obtain rfl : j = vs.length := by omega
          have HE := Lib.hid (helpR_ok (X := X) (o := o) HD.out HF.out.done)
          rw [HE.out] at HQ'
          clear HE HD HF
          have h3 := HH.out.c3
          have h4 := HH.out.c4
          have h5 := HH.out.c5
          have h6 := HH.out.c6
          have h0 := HH.out.cv0
          have a0 := HH.out.at0
          have a1 := HH.out.at1
          have hv := HH.out.vj (j := o.at_.toNat) (by simp only at a0 a1; omega)
          have HV := Lib.hid (show vs.getD o.at_.toNat 0 = vs[o.at_.toNat]'(by simp only at a0 a1; omega) by simp [List.getD_eq_getElem?_getD, List.getElem?_eq_getElem (show o.at_.toNat < vs.length by simp only at a0 a1; omega)])
          have HVM := Lib.hid HH.out.vat
          simp only at h3 h4 h5 h6 a0 a1 HVM
          rw [HV.out] at HVM HQ'
          have HFL := Lib.hid HH.out.fl1
          have HFB := Lib.hid HH.out.fbe
          simp only [HV.out] at HFL HFB
          generalize vs[o.at_.toNat]'(by omega) = r at *
          have HHd : RepapiPair wr.drew R2 (upd X s { o with frozen := true }) := HH.out.rep.fr (S := fun _ => False) (Fr.refl wr _).drew (fun _ _ _ => ⟨id, id⟩) (fun _ _ _ => id)
          have HSd : StepI B g wr wr.drew (ks ++ kp ++ [2] ++ mp) (fun _ => False) := HH.out.g1.fr (Fr.refl wr _).drew (fun _ _ => id)
          have HH2 := Lib.hid (HH.out.same HSd HHd)
          have HC := Lib.hid (swing_apiPair B g _ R2 _ wr.drew HHd HH2.out.g1 HH2.out.size (by have := HK2.out; omega) r _ (rg_some (HH.out.vsR r HVM.out)) o.fld HH.out.fl0 HFL.out o.old o.new HH.out.okO HH.out.okN)
          have HS1 := Lib.hid (HH.out.fl0)
          clear HH HHd HSd hlt hj
          go_wp2_with fail
          refine wp_region_still_tail 23 (by kernel_rfl) (by kernel_rfl) ?_
          simp only [List.take_succ_cons, List.take_zero, List.drop_succ_cons, List.drop_zero]
          iterate 23 still_step
          refine wpStill_nil ?_
          change wpList _ _ _ _ _ wr.drew
          go_wp2_with fail
          refine HC.out.mono ?_
          rintro e w2 ⟨rfl, hst, hrep⟩
          have HST := Lib.hid (HH2.out.st.trans hst (fun k _ hk => .inr (.inl (hk.trans HFB.out))))
          have HR2 := Lib.hid hrep
          clear hst hrep HC h0 h3 h4 h5 h6 hv
          have HC2 := Lib.hid (commit_apiPair B g _ _ _ w2 HR2.out HST.out.gate (Nat.le_trans HH2.out.g0 HST.out.fr.size) (by have := HK2.out; simp at this ⊢; omega) s _ (upd_self _ _ _))
          go_wp2_with fail
          refine HC2.out.mono ?_
          rintro e w3 ⟨rfl, hst, hrep⟩
          rw [upd_upd] at hrep
          have HZ := Lib.hid (HQ'.out _ w3 ⟨rfl, by have := HST.out.trans hst (fun k _ hk => .inr (.inr hk)); simpa using this, hrep⟩)
          clear hst hrep HC2 HR2 HST HH2 HQ'
          go_wp2
          exact HZ.out
end Go.Proofs.Yteeficpjggimcaa

/- chain: a list in memory; tail, has, walk. -/
namespace Go.Proofs.Yteeficpjggimcaa
open Go.RowKit Go.Proofs.YteeficpjggimcaaW.PrintWords
set_option linter.unusedVariables false
set_option linter.unusedSimpArgs false

abbrev TPR : Nat := 86
abbrev TPX : Nat := 116
abbrev TPC : Nat := 106
abbrev TCH : Nat := 61
abbrev TLK : Nat := 95
/-- The blocks of records. -/
def RFoot (R : Nat → Option RecO) (X : Nat → Option ScxO) (k : Nat) : Prop := (R k).isSome ∨ (∃ b o, R b = some o ∧ o.fb = k) ∨ (X k).isSome
/-- The pairs with the head's and the tail's. -/
def psOf (l : List (Int × Int)) : List (Int × Int) := (0, 0) :: (l ++ [(0, 0)])
theorem psOf_at (l : List (Int × Int)) {i : Nat} (hi : i < l.length) : (psOf l).getD (i + 1) (0, 0) = l[i] := by
  simp [psOf, List.getD_eq_getElem?_getD, List.getElem?_append_left hi, List.getElem?_eq_getElem hi]
/-- Where a walk to the key comes to stand: so many keys are below. -/
def cutN : List (Int × Int) → Int → Nat
  | [], _ => 0
  | x :: l, key => if x.1 < key then cutN l key + 1 else 0
theorem cutN_le : ∀ (l : List (Int × Int)) (key : Int), cutN l key ≤ l.length
  | [], _ => Nat.le_refl _
  | x :: l, key => by
    have := cutN_le l key
    unfold cutN; split <;> simp <;> omega
theorem cutN_below : ∀ (l : List (Int × Int)) (key : Int) (i : Nat) (h : i < cutN l key) (hl : i < l.length), l[i].1 < key
  | [], _, _, h, hl => by simp at hl
  | x :: l, key, i, h, hl => by
    unfold cutN at h
    split at h
    · cases i with
      | zero => assumption
      | succ i => exact cutN_below l key i (by omega) (by simpa using hl)
    · omega
theorem cutN_stop : ∀ (l : List (Int × Int)) (key : Int) (h : cutN l key < l.length), ¬ (l[cutN l key]'h).1 < key
  | [], _, h => by simp at h
  | x :: l, key, h => by
    by_cases hx : x.1 < key
    · have e : cutN (x :: l) key = cutN l key + 1 := by simp [cutN, hx]
      have h' : cutN l key < l.length := by rw [e] at h; simpa using h
      have := cutN_stop l key h'
      simp only [e, List.getElem_cons_succ]
      exact this
    · have e : cutN (x :: l) key = 0 := by simp [cutN, hx]
      simp only [e, List.getElem_cons_zero]
      exact hx
theorem cutN_on {l : List (Int × Int)} {key : Int} {j : Nat} (hj : j ≤ cutN l key) (hl : j < l.length) (hk : l[j].1 < key) : j + 1 ≤ cutN l key := by
  rcases Nat.lt_or_ge j (cutN l key) with h | h
  · exact h
  · exfalso
    have e : j = cutN l key := by omega
    subst e
    exact cutN_stop l key hl hk
theorem cutN_at {l : List (Int × Int)} {key : Int} {j : Nat} (hj : j ≤ cutN l key) (hl : j < l.length) (hk : ¬ l[j].1 < key) : cutN l key = j := by
  rcases Nat.lt_or_ge j (cutN l key) with h | h
  · exact absurd (cutN_below l key j h hl) hk
  · omega
/-- A list in memory: the blocks bs (head, items, tail) with what they hold. -/
structure Chn (B : Nat) (w : World) (R : Nat → Option RecO) (X : Nat → Option ScxO) (bs : List Nat) (l : List (Int × Int)) : Prop where
  rep : RepapiPair w R X
  len : bs.length = l.length + 2
  nd : bs.Nodup
  at_ : ∀ (i b : Nat), bs[i]? = some b → ∃ fb x o, R b = some ⟨[.int .i64 ((psOf l).getD i (0, 0)).1, .int .i64 ((psOf l).getD i (0, 0)).2], fb, (bs[i + 1]?).toList.map some, some x, false⟩ ∧ X x = some o ∧ (o.state = 1 ∨ o.state = 2)
  lo : ∀ k, RFoot R X k → B ≤ k
section
variable {B : Nat} {w w' : World} {g : Option Nat} {ks ks' : List Int} {R : Nat → Option RecO} {X : Nat → Option ScxO} {bs : List Nat} {l : List (Int × Int)}
theorem Chn.below (h : Chn B w R X bs l) (hb : Below w.heap.size w w') : Chn B w' R X bs l := ⟨h.rep.below hb, h.len, h.nd, h.at_, h.lo⟩
theorem Chn.step {B' : Nat} (h : Chn B w R X bs l) (hg : GAtI w B' g ks) (hs : StepI B' g w w' ks' (fun _ => False)) : Chn B w' R X bs l := ⟨h.rep.step tys_apiPair hg hs, h.len, h.nd, h.at_, h.lo⟩
theorem Chn.types (h : Chn B w R X bs l) {S : Nat → Prop} (hf : Fr w w' S) (hS : ∀ k, S k → ∃ T ys, Blk w k T ys ∧ T ≠ TPR ∧ T ≠ TPC ∧ T ≠ TPX) : Chn B w' R X bs l := ⟨h.rep.types hf hS, h.len, h.nd, h.at_, h.lo⟩
/-- An item: not the tail. -/
theorem Chn.item (h : Chn B w R X bs l) {i : Nat} (hi : i + 1 < bs.length) : ∃ b n fb x o, bs[i]? = some b ∧ bs[i + 1]? = some n ∧ R b = some ⟨[.int .i64 ((psOf l).getD i (0, 0)).1, .int .i64 ((psOf l).getD i (0, 0)).2], fb, [some n], some x, false⟩ ∧ X x = some o ∧ (o.state = 1 ∨ o.state = 2) := by
  have h1 : bs[i]? = some (bs[i]'(by omega)) := List.getElem?_eq_getElem (by omega)
  have h2 : bs[i + 1]? = some bs[i + 1] := List.getElem?_eq_getElem hi
  obtain ⟨fb, x, o, h3, h4, h5⟩ := h.at_ i _ h1
  rw [h2] at h3
  exact ⟨_, _, fb, x, o, h1, h2, h3, h4, h5⟩
theorem Chn.last (h : Chn B w R X bs l) {i : Nat} (hi : i + 1 = bs.length) : ∃ b fb x o, bs[i]? = some b ∧ R b = some ⟨[.int .i64 ((psOf l).getD i (0, 0)).1, .int .i64 ((psOf l).getD i (0, 0)).2], fb, [], some x, false⟩ ∧ X x = some o ∧ (o.state = 1 ∨ o.state = 2) := by
  have h1 : bs[i]? = some (bs[i]'(by omega)) := List.getElem?_eq_getElem (by omega)
  have h2 : bs[i + 1]? = none := List.getElem?_eq_none (by omega)
  obtain ⟨fb, x, o, h3, h4, h5⟩ := h.at_ i _ h1
  rw [h2] at h3
  exact ⟨_, fb, x, o, h1, h3, h4, h5⟩
end
/-- tail. -/
theorem tail_yes (R : Nat → Option RecO) (X : Nat → Option ScxO) (w : World) (h : RepapiPair w R X) (b : Nat) (o : RecO) (ho : R b = some o) (hf : o.fields = []) :
    Calls Try.prog 34 #[.pointer (some ⟨b, 0, none⟩)] w fun e w' => e = .returned (.bool true) ∧ w = w' := by
  have HL := Lib.hid (len_apiPair R X w h b o ho)
  rw [hf] at HL
  clear h
  go_enter Try.func34, Try.ntmps34
  go_wp2_with fail
  refine HL.out.mono ?_
  rintro e w' ⟨rfl, rfl⟩
  go_wp2
  go_ret
  exact ⟨rfl, rfl⟩
theorem tail_no (R : Nat → Option RecO) (X : Nat → Option ScxO) (w : World) (h : RepapiPair w R X) (b : Nat) (o : RecO) (ho : R b = some o) (n : Option Nat) (hf : o.fields = [n]) :
    Calls Try.prog 34 #[.pointer (some ⟨b, 0, none⟩)] w fun e w' => e = .returned (.bool false) ∧ w = w' := by
  have HL := Lib.hid (len_apiPair R X w h b o ho)
  rw [hf] at HL
  clear h
  go_enter Try.func34, Try.ntmps34
  go_wp2_with fail
  refine HL.out.mono ?_
  rintro e w' ⟨rfl, rfl⟩
  go_wp2
  go_ret
  exact ⟨rfl, rfl⟩
section
variable {B B' : Nat} {w w' : World} {g : Option Nat} {ks ks' : List Int} {R : Nat → Option RecO} {X : Nat → Option ScxO} {bs : List Nat} {l : List (Int × Int)}
theorem Chn.get (h : Chn B w R X bs l) (hg : GAtI w B' g ks) (hB : B' ≤ w.heap.size) (hl : ks.length ≤ 1000000000) {i b n : Nat} (hb : bs[i]? = some b) (hn : bs[i + 1]? = some n) :
    Calls Try.prog 33 #[.pointer (some ⟨b, 0, none⟩), gvI g, .int .i64 0] w fun e w' => e = .returned (.pointer (some ⟨n, 0, none⟩)) ∧ StepI B' g w w' (ks ++ [1]) (fun _ => False) ∧ Chn B w' R X bs l := by
  obtain ⟨fb, x, o, h1, _⟩ := h.at_ i b hb
  rw [hn] at h1
  refine (get_apiPair B' g ks R X w h.rep hg hB hl b _ h1 0 (by omega) (by simp)).mono ?_
  rintro e w1 ⟨rfl, hs, hr⟩
  exact ⟨rfl, hs, hr, h.len, h.nd, h.at_, h.lo⟩
theorem Chn.tailYes (h : Chn B w R X bs l) {b : Nat} (hb : bs[l.length + 1]? = some b) :
    Calls Try.prog 34 #[.pointer (some ⟨b, 0, none⟩)] w fun e w' => e = .returned (.bool true) ∧ w = w' := by
  obtain ⟨fb, x, o, h1, _⟩ := h.at_ _ b hb
  rw [List.getElem?_eq_none (by rw [h.len]; omega)] at h1
  exact tail_yes R X w h.rep b _ h1 rfl
theorem Chn.tailNo (h : Chn B w R X bs l) {i b : Nat} (hi : i < l.length + 1) (hb : bs[i]? = some b) :
    Calls Try.prog 34 #[.pointer (some ⟨b, 0, none⟩)] w fun e w' => e = .returned (.bool false) ∧ w = w' := by
  obtain ⟨fb, x, o, h1, _⟩ := h.at_ _ b hb
  rw [List.getElem?_eq_getElem (show i + 1 < bs.length by rw [h.len]; omega)] at h1
  exact tail_no R X w h.rep b _ h1 _ rfl
theorem Chn.key (h : Chn B w R X bs l) {i b : Nat} (hi : i < l.length) (hb : bs[i + 1]? = some b) : w.cell? ⟨b, 0, none⟩ = some (.int .i64 l[i].1) ∧ w.cell? ⟨b, 1, none⟩ = some (.int .i64 l[i].2) := by
  obtain ⟨fb, x, o, h1, _⟩ := h.at_ _ b hb
  rw [psOf_at l hi] at h1
  have := (h.rep.recs _ _ h1).1
  exact ⟨this.cell 0, this.cell 1⟩
end
end Go.Proofs.Yteeficpjggimcaa
