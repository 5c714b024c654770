/- Data-records and SCX-records: each access by a gate. Written by mk.py. -/
import Derived.Test.YtphhdmopfmelbaaCell
import Derived.Test.YtphhdmopfmelbaaHeap
import Derived.Lib.Hide
namespace Go.Proofs.Ytphhdmopfmelbaa
open Go.RowKit Go.Proofs.YtphhdmopfmelbaaW.PrintWords
set_option linter.unusedVariables false
set_option linter.unusedSimpArgs false

abbrev Repint := Rep 178 1 170 152
theorem tys_int : Tys 178 170 152 TT ti := ⟨by decide, by decide, by decide, by decide, by decide, by decide, by decide, by decide, by decide⟩

set_option maxHeartbeats 400000 in
theorem len_int (R : Nat → Option RecO) (X : Nat → Option ScxO) (w : World) (h : Repint w R X) (b : Nat) (o : RecO) (ho : R b = some o) :
    Calls Try.prog 98 #[pv (some b)] w fun e w' => e = .returned (.int .i64 o.fields.length) ∧ w = w' := by
  have hc : w.cell? ⟨b, 1, none⟩ = some (.slice (some ⟨o.fb, 0, none⟩) o.fields.length o.fields.length) := h.cell ho 0
  show Calls Try.prog 98 #[.pointer (some ⟨b, 0, none⟩)] w _
  go_enter Try.func98, Try.ntmps98
  go_wp2
  go_ret
  exact ⟨rfl, rfl⟩

set_option maxHeartbeats 400000 in
theorem get_int (B : Nat) (g : Option Nat) (ks : List Int) (R : Nat → Option RecO) (X : Nat → Option ScxO) (w : World) (h : Repint w R X) (hg : GAtI w B g ks) (hbB : B ≤ w.heap.size) (hl : ks.length ≤ 1000000000) (b : Nat) (o : RecO) (ho : R b = some o) (i : Int) (i0 : 0 ≤ i) (i1 : i < o.fields.length) :
    Calls Try.prog 94 #[pv (some b), gvI g, .int .i64 i] w fun e w' => e = .returned (pv (o.fields.getD i.toNat none)) ∧ StepI B g w w' (ks ++ [1]) (fun _ => False) ∧ Repint w' R X := by
  have hc : w.cell? ⟨b, 1, none⟩ = some (.slice (some ⟨o.fb, 0, none⟩) o.fields.length o.fields.length) := h.cell ho 0
  have hlt : i.toNat < o.fields.length := by omega
  have hx0 : o.fields[i.toNat]? = some (o.fields.getD i.toNat none) := by simp [List.getD_eq_getElem?_getD, List.getElem?_eq_getElem hlt]
  have hx : (o.fields.map pv)[i.toNat]? = some (pv (o.fields.getD i.toNat none)) := by rw [List.getElem?_map, hx0]; rfl
  have C := cell_load_Recordint B g ks o.fb i.toNat 170 _ w hg hbB hl (h.fld b o ho) (by decide) (by decide) _ hx (h.recPtr (h.okField ho hx0))
  have HS := fun w' hs => h.step tys_int hg (w' := w') (ks' := ks ++ [1]) hs
  generalize o.fields.getD i.toNat none = p at *
  clear hx hx0 h hg
  show Calls Try.prog 94 #[.pointer (some ⟨b, 0, none⟩), gvI g, .int .i64 i] w _
  have HC := Lib.hid C
  have HS' := Lib.hid HS
  clear C HS
  go_enter Try.func94, Try.ntmps94
  go_wp2_with fail
  refine HC.out.mono ?_
  rintro e w1 ⟨rfl, H⟩
  have H2 := Lib.hid (HS'.out w1 H)
  have H1 := Lib.hid H
  clear H HC HS'
  go_wp2
  go_ret
  exact ⟨rfl, H1.out, H2.out⟩

set_option maxHeartbeats 400000 in
theorem swing_int (B : Nat) (g : Option Nat) (ks : List Int) (R : Nat → Option RecO) (X : Nat → Option ScxO) (w : World) (h : Repint w R X) (hg : GAtI w B g ks) (hbB : B ≤ w.heap.size) (hl : ks.length ≤ 1000000000) (b : Nat) (o : RecO) (ho : R b = some o) (i : Int) (i0 : 0 ≤ i) (i1 : i < o.fields.length) (x y : Option Nat) (hx : Ok R x) (hy : Ok R y) :
    Calls Try.prog 76 #[pv (some b), gvI g, .int .i64 i, pv x, pv y] w fun e w' => e = .returned (.bool (decide (o.fields.getD i.toNat none = x))) ∧ StepI B g w w' (ks ++ [5]) (fun k => k = o.fb) ∧
      Repint w' (upd R b { o with fields := if o.fields.getD i.toNat none = x then o.fields.set i.toNat y else o.fields }) X := by
  have hc : w.cell? ⟨b, 1, none⟩ = some (.slice (some ⟨o.fb, 0, none⟩) o.fields.length o.fields.length) := h.cell ho 0
  have hlt : i.toNat < o.fields.length := by omega
  have hx0 : o.fields[i.toNat]? = some (o.fields.getD i.toNat none) := by simp [List.getD_eq_getElem?_getD, List.getElem?_eq_getElem hlt]
  have hx1 : (o.fields.map pv)[i.toNat]? = some (pv (o.fields.getD i.toNat none)) := by rw [List.getElem?_map, hx0]; rfl
  have C := cell_cas_Recordint B g ks o.fb i.toNat 170 _ w hg hbB hl (h.fld b o ho) (by decide) (by decide) _ x y hx1 (h.recPtr (h.okField ho hx0)) (h.recPtr hx) (h.recPtr hy)
  have HS : ∀ w', StepI B g w w' (ks ++ [5]) (fun k => k = o.fb) → Blk w' o.fb 170 (if o.fields.getD i.toNat none = x then (o.fields.map pv).set i.toNat (pv y) else o.fields.map pv) →
      Repint w' (upd R b { o with fields := if o.fields.getD i.toNat none = x then o.fields.set i.toNat y else o.fields }) X := fun w' hs hb => by
    refine h.setFields tys_int hg ho hs ?_ ?_ ?_
    · split <;> simp
    · split at hb
      · rw [if_pos ‹_›, List.map_set]; exact hb
      · rw [if_neg ‹_›]; exact hb
    · intro z hz
      split at hz
      · rcases List.mem_or_eq_of_mem_set hz with hz | hz
        · exact h.kf b o ho z hz
        · exact hy z hz.symm
      · exact h.kf b o ho z hz
  generalize o.fields.getD i.toNat none = p at *
  clear hx hx0 hx1 hy h hg
  show Calls Try.prog 76 #[.pointer (some ⟨b, 0, none⟩), gvI g, .int .i64 i, pv x, pv y] w _
  refine calls_hide fun Q HQ => ?_
  have HQ' := Lib.hid HQ
  clear HQ
  have HC := Lib.hid C
  have HS' := Lib.hid HS
  clear C HS
  go_enter Try.func76, Try.ntmps76
  go_wp2_with fail
  refine HC.out.mono ?_
  rintro e w1 ⟨rfl, H, hb⟩
  have H2 := Lib.hid (HS'.out w1 H hb)
  have H1 := Lib.hid H
  clear H HC HS' hb
  go_wp2
  exact HQ'.out _ _ ⟨rfl, H1.out, H2.out⟩

set_option maxHeartbeats 400000 in
theorem info_int (B : Nat) (g : Option Nat) (ks : List Int) (R : Nat → Option RecO) (X : Nat → Option ScxO) (w : World) (h : Repint w R X) (hg : GAtI w B g ks) (hbB : B ≤ w.heap.size) (hl : ks.length ≤ 1000000000) (b : Nat) (o : RecO) (ho : R b = some o) :
    Calls Try.prog 71 #[pv (some b), gvI g] w fun e w' => e = .returned (pv o.info) ∧ StepI B g w w' (ks ++ [1]) (fun _ => False) ∧ Repint w' R X := by
  have C := cell_load_Scxint B g ks b 2 178 _ w hg hbB hl (h.recs b o ho).1 (by decide) (by decide) o.info (h.at_ ho 1) (h.scxPtr (h.okInfo ho))
  have HS := fun w' hs => h.step tys_int hg (w' := w') (ks' := ks ++ [1]) hs
  clear h hg
  show Calls Try.prog 71 #[.pointer (some ⟨b, 0, none⟩), gvI g] w _
  have HC := Lib.hid C
  have HS' := Lib.hid HS
  clear C HS
  go_enter Try.func71, Try.ntmps71
  go_wp2_with fail
  refine HC.out.mono ?_
  rintro e w1 ⟨rfl, H⟩
  have H2 := Lib.hid (HS'.out w1 H)
  have H1 := Lib.hid H
  clear H HC HS'
  go_wp2
  go_ret
  exact ⟨rfl, H1.out, H2.out⟩

set_option maxHeartbeats 400000 in
theorem freeze_int (B : Nat) (g : Option Nat) (ks : List Int) (R : Nat → Option RecO) (X : Nat → Option ScxO) (w : World) (h : Repint w R X) (hg : GAtI w B g ks) (hbB : B ≤ w.heap.size) (hl : ks.length ≤ 1000000000) (b : Nat) (o : RecO) (ho : R b = some o) (x y : Option Nat) (hx : Ok X x) (hy : Ok X y) :
    Calls Try.prog 70 #[pv (some b), gvI g, pv x, pv y] w fun e w' => e = .returned (.bool (decide (o.info = x))) ∧ StepI B g w w' (ks ++ [5]) (fun k => k = b) ∧
      Repint w' (upd R b { o with info := if o.info = x then y else o.info }) X := by
  have C := cell_cas_Scxint B g ks b 2 178 _ w hg hbB hl (h.recs b o ho).1 (by decide) (by decide) o.info x y (h.at_ ho 1) (h.scxPtr (h.okInfo ho)) (h.scxPtr hx) (h.scxPtr hy)
  have HS : ∀ w', StepI B g w w' (ks ++ [5]) (fun k => k = b) → Blk w' b 178 (if o.info = x then o.cells.set 2 (pv y) else o.cells) →
      Repint w' (upd R b { o with info := if o.info = x then y else o.info }) X := fun w' hs hb => by
    refine h.setRec tys_int hg ho hs rfl rfl rfl ?_ ?_
    · split at hb
      · rw [if_pos ‹_›]
        rw [show 2 = 1 + 1 from rfl, o.set_tail (h.recs b o ho).2] at hb
        exact hb
      · rw [if_neg ‹_›]; exact hb
    · show Ok X (if o.info = x then y else o.info)
      split
      · exact hy
      · exact h.okInfo ho
  clear hx hy h hg
  show Calls Try.prog 70 #[.pointer (some ⟨b, 0, none⟩), gvI g, pv x, pv y] w _
  refine calls_hide fun Q HQ => ?_
  have HQ' := Lib.hid HQ
  clear HQ
  have HC := Lib.hid C
  have HS' := Lib.hid HS
  clear C HS
  go_enter Try.func70, Try.ntmps70
  go_wp2_with fail
  refine HC.out.mono ?_
  rintro e w1 ⟨rfl, H, hb⟩
  have H2 := Lib.hid (HS'.out w1 H hb)
  have H1 := Lib.hid H
  clear H HC HS' hb
  go_wp2
  exact HQ'.out _ _ ⟨rfl, H1.out, H2.out⟩

set_option maxHeartbeats 400000 in
theorem marked_int (B : Nat) (g : Option Nat) (ks : List Int) (R : Nat → Option RecO) (X : Nat → Option ScxO) (w : World) (h : Repint w R X) (hg : GAtI w B g ks) (hbB : B ≤ w.heap.size) (hl : ks.length ≤ 1000000000) (b : Nat) (o : RecO) (ho : R b = some o) :
    Calls Try.prog 97 #[pv (some b), gvI g] w fun e w' => e = .returned (.bool o.mark) ∧ StepI B g w w' (ks ++ [1]) (fun _ => False) ∧ Repint w' R X := by
  have HS := fun w' hs => h.step tys_int hg (w' := w') (ks' := ks ++ [1]) hs
  have HS' := Lib.hid HS
  clear HS
  cases hm : o.mark with
  | false =>
    have C := mark_load_false B g ks b 3 178 _ w hg hbB hl (h.recs b o ho).1 (by decide) (by decide) (by rw [show 3 = 1 + 2 from rfl, h.at_ ho 2]; simp [RecO.tail, ScxO.cells, u32b, hm])
    have HC := Lib.hid C
    clear C h hg hm
    show Calls Try.prog 97 #[.pointer (some ⟨b, 0, none⟩), gvI g] w _
    go_enter Try.func97, Try.ntmps97
    go_wp2_with fail
    refine HC.out.mono ?_
    rintro e w1 ⟨rfl, H⟩
    have H2 := Lib.hid (HS'.out w1 H)
    have H1 := Lib.hid H
    clear H HC HS'
    go_wp2
    go_ret
    exact ⟨rfl, H1.out, H2.out⟩
  | true =>
    have C := mark_load_true B g ks b 3 178 _ w hg hbB hl (h.recs b o ho).1 (by decide) (by decide) (by rw [show 3 = 1 + 2 from rfl, h.at_ ho 2]; simp [RecO.tail, ScxO.cells, u32b, hm])
    have HC := Lib.hid C
    clear C h hg hm
    show Calls Try.prog 97 #[.pointer (some ⟨b, 0, none⟩), gvI g] w _
    go_enter Try.func97, Try.ntmps97
    go_wp2_with fail
    refine HC.out.mono ?_
    rintro e w1 ⟨rfl, H⟩
    have H2 := Lib.hid (HS'.out w1 H)
    have H1 := Lib.hid H
    clear H HC HS'
    go_wp2
    go_ret
    exact ⟨rfl, H1.out, H2.out⟩

set_option maxHeartbeats 400000 in
theorem allfrozen_int (B : Nat) (g : Option Nat) (ks : List Int) (R : Nat → Option RecO) (X : Nat → Option ScxO) (w : World) (h : Repint w R X) (hg : GAtI w B g ks) (hbB : B ≤ w.heap.size) (hl : ks.length ≤ 1000000000) (b : Nat) (o : ScxO) (ho : X b = some o) :
    Calls Try.prog 72 #[pv (some b), gvI g] w fun e w' => e = .returned (.bool o.frozen) ∧ StepI B g w w' (ks ++ [1]) (fun _ => False) ∧ Repint w' R X := by
  have HS := fun w' hs => h.step tys_int hg (w' := w') (ks' := ks ++ [1]) hs
  have HS' := Lib.hid HS
  clear HS
  cases hm : o.frozen with
  | false =>
    have C := mark_load_false B g ks b 8 152 _ w hg hbB hl (h.scx b o ho) (by decide) (by decide) (by simp [RecO.tail, ScxO.cells, u32b, hm])
    have HC := Lib.hid C
    clear C h hg hm
    show Calls Try.prog 72 #[.pointer (some ⟨b, 0, none⟩), gvI g] w _
    go_enter Try.func72, Try.ntmps72
    go_wp2_with fail
    refine HC.out.mono ?_
    rintro e w1 ⟨rfl, H⟩
    have H2 := Lib.hid (HS'.out w1 H)
    have H1 := Lib.hid H
    clear H HC HS'
    go_wp2
    go_ret
    exact ⟨rfl, H1.out, H2.out⟩
  | true =>
    have C := mark_load_true B g ks b 8 152 _ w hg hbB hl (h.scx b o ho) (by decide) (by decide) (by simp [RecO.tail, ScxO.cells, u32b, hm])
    have HC := Lib.hid C
    clear C h hg hm
    show Calls Try.prog 72 #[.pointer (some ⟨b, 0, none⟩), gvI g] w _
    go_enter Try.func72, Try.ntmps72
    go_wp2_with fail
    refine HC.out.mono ?_
    rintro e w1 ⟨rfl, H⟩
    have H2 := Lib.hid (HS'.out w1 H)
    have H1 := Lib.hid H
    clear H HC HS'
    go_wp2
    go_ret
    exact ⟨rfl, H1.out, H2.out⟩

set_option maxHeartbeats 400000 in
theorem mark_int (B : Nat) (g : Option Nat) (ks : List Int) (R : Nat → Option RecO) (X : Nat → Option ScxO) (w : World) (h : Repint w R X) (hg : GAtI w B g ks) (hbB : B ≤ w.heap.size) (hl : ks.length ≤ 1000000000) (b : Nat) (o : RecO) (ho : R b = some o) :
    Calls Try.prog 75 #[pv (some b), gvI g] w fun e w' => e = .returned (.tuple #[]) ∧ StepI B g w w' (ks ++ [2]) (fun k => k = b) ∧ Repint w' (upd R b { o with mark := true }) X := by
  have C := mark_store_true B g ks b 3 178 _ w hg hbB hl (h.recs b o ho).1 (by decide) (by decide) _ (h.at_ ho 2)
  have HS : ∀ w', StepI B g w w' (ks ++ [2]) (fun k => k = b) → Blk w' b 178 (o.cells.set 3 (.int .u32 1)) → Repint w' (upd R b { o with mark := true }) X := fun w' hs hb => by
    refine h.setRec tys_int hg ho hs rfl rfl rfl ?_ (fun x e => h.ki b o ho x e)
    rw [show 3 = 1 + 2 from rfl, o.set_tail (h.recs b o ho).2] at hb
    exact hb
  have HC := Lib.hid C
  have HS' := Lib.hid HS
  clear C HS h hg
  show Calls Try.prog 75 #[.pointer (some ⟨b, 0, none⟩), gvI g] w _
  go_enter Try.func75, Try.ntmps75
  go_wp2_with fail
  refine HC.out.mono ?_
  rintro e w1 ⟨rfl, H, hb⟩
  have H2 := Lib.hid (HS'.out w1 H hb)
  have H1 := Lib.hid H
  clear H HC HS' hb
  go_wp2
  go_end0
  exact ⟨rfl, H1.out, H2.out⟩

set_option maxHeartbeats 400000 in
theorem commit_int (B : Nat) (g : Option Nat) (ks : List Int) (R : Nat → Option RecO) (X : Nat → Option ScxO) (w : World) (h : Repint w R X) (hg : GAtI w B g ks) (hbB : B ≤ w.heap.size) (hl : ks.length ≤ 1000000000) (b : Nat) (o : ScxO) (ho : X b = some o) :
    Calls Try.prog 77 #[pv (some b), gvI g] w fun e w' => e = .returned (.tuple #[]) ∧ StepI B g w w' (ks ++ [2]) (fun k => k = b) ∧ Repint w' R (upd X b { o with state := 1 }) := by
  have C := num_store B g ks b 7 152 _ w hg hbB hl (h.scx b o ho) (by decide) (by decide) 1 (by decide) (by decide) (.int .i64 o.state) rfl
  have HS : ∀ w', StepI B g w w' (ks ++ [2]) (fun k => k = b) → Blk w' b 152 (o.cells.set 7 (.int .i64 1)) → Repint w' R (upd X b { o with state := 1 }) := fun w' hs hb => by
    exact h.setScx tys_int hg ho hs hb
  have HC := Lib.hid C
  have HS' := Lib.hid HS
  clear C HS h hg
  show Calls Try.prog 77 #[.pointer (some ⟨b, 0, none⟩), gvI g] w _
  go_enter Try.func77, Try.ntmps77
  go_wp2_with fail
  refine HC.out.mono ?_
  rintro e w1 ⟨rfl, H, hb⟩
  have H2 := Lib.hid (HS'.out w1 H hb)
  have H1 := Lib.hid H
  clear H HC HS' hb
  go_wp2
  go_end0
  exact ⟨rfl, H1.out, H2.out⟩

set_option maxHeartbeats 400000 in
theorem abort_int (B : Nat) (g : Option Nat) (ks : List Int) (R : Nat → Option RecO) (X : Nat → Option ScxO) (w : World) (h : Repint w R X) (hg : GAtI w B g ks) (hbB : B ≤ w.heap.size) (hl : ks.length ≤ 1000000000) (b : Nat) (o : ScxO) (ho : X b = some o) :
    Calls Try.prog 73 #[pv (some b), gvI g] w fun e w' => e = .returned (.tuple #[]) ∧ StepI B g w w' (ks ++ [2]) (fun k => k = b) ∧ Repint w' R (upd X b { o with state := 2 }) := by
  have C := num_store B g ks b 7 152 _ w hg hbB hl (h.scx b o ho) (by decide) (by decide) 2 (by decide) (by decide) (.int .i64 o.state) rfl
  have HS : ∀ w', StepI B g w w' (ks ++ [2]) (fun k => k = b) → Blk w' b 152 (o.cells.set 7 (.int .i64 2)) → Repint w' R (upd X b { o with state := 2 }) := fun w' hs hb => by
    exact h.setScx tys_int hg ho hs hb
  have HC := Lib.hid C
  have HS' := Lib.hid HS
  clear C HS h hg
  show Calls Try.prog 73 #[.pointer (some ⟨b, 0, none⟩), gvI g] w _
  go_enter Try.func73, Try.ntmps73
  go_wp2_with fail
  refine HC.out.mono ?_
  rintro e w1 ⟨rfl, H, hb⟩
  have H2 := Lib.hid (HS'.out w1 H hb)
  have H1 := Lib.hid H
  clear H HC HS' hb
  go_wp2
  go_end0
  exact ⟨rfl, H1.out, H2.out⟩

set_option maxHeartbeats 400000 in
theorem setallfrozen_int (B : Nat) (g : Option Nat) (ks : List Int) (R : Nat → Option RecO) (X : Nat → Option ScxO) (w : World) (h : Repint w R X) (hg : GAtI w B g ks) (hbB : B ≤ w.heap.size) (hl : ks.length ≤ 1000000000) (b : Nat) (o : ScxO) (ho : X b = some o) :
    Calls Try.prog 74 #[pv (some b), gvI g] w fun e w' => e = .returned (.tuple #[]) ∧ StepI B g w w' (ks ++ [2]) (fun k => k = b) ∧ Repint w' R (upd X b { o with frozen := true }) := by
  have C := mark_store_true B g ks b 8 152 _ w hg hbB hl (h.scx b o ho) (by decide) (by decide) (u32b o.frozen) rfl
  have HS : ∀ w', StepI B g w w' (ks ++ [2]) (fun k => k = b) → Blk w' b 152 (o.cells.set 8 (.int .u32 1)) → Repint w' R (upd X b { o with frozen := true }) := fun w' hs hb => by
    exact h.setScx tys_int hg ho hs hb
  have HC := Lib.hid C
  have HS' := Lib.hid HS
  clear C HS h hg
  show Calls Try.prog 74 #[.pointer (some ⟨b, 0, none⟩), gvI g] w _
  go_enter Try.func74, Try.ntmps74
  go_wp2_with fail
  refine HC.out.mono ?_
  rintro e w1 ⟨rfl, H, hb⟩
  have H2 := Lib.hid (HS'.out w1 H hb)
  have H1 := Lib.hid H
  clear H HC HS' hb
  go_wp2
  go_end0
  exact ⟨rfl, H1.out, H2.out⟩

set_option maxHeartbeats 400000 in
theorem state_int (B : Nat) (g : Option Nat) (ks : List Int) (R : Nat → Option RecO) (X : Nat → Option ScxO) (w : World) (h : Repint w R X) (hg : GAtI w B g ks) (hbB : B ≤ w.heap.size) (hl : ks.length ≤ 1000000000) (b : Nat) (o : ScxO) (ho : X b = some o) (n0 : 0 ≤ o.state) (n1 : o.state ≤ 1000) :
    Calls Try.prog 99 #[pv (some b), gvI g] w fun e w' => e = .returned (.int .i64 o.state) ∧ StepI B g w w' (ks ++ [1]) (fun _ => False) ∧ Repint w' R X := by
  have C := num_load B g ks b 7 152 _ w hg hbB hl (h.scx b o ho) (by decide) (by decide) o.state n0 n1 rfl
  have HS := fun w' hs => h.step tys_int hg (w' := w') (ks' := ks ++ [1]) hs
  clear h hg
  show Calls Try.prog 99 #[.pointer (some ⟨b, 0, none⟩), gvI g] w _
  have HC := Lib.hid C
  have HS' := Lib.hid HS
  clear C HS
  go_enter Try.func99, Try.ntmps99
  go_wp2_with fail
  refine HC.out.mono ?_
  rintro e w1 ⟨rfl, H⟩
  have H2 := Lib.hid (HS'.out w1 H)
  have H1 := Lib.hid H
  clear H HC HS'
  go_wp2
  go_ret
  exact ⟨rfl, H1.out, H2.out⟩

set_option maxHeartbeats 400000 in
theorem getn_int (R : Nat → Option RecO) (X : Nat → Option ScxO) (w : World) (h : Repint w R X)  (b : Nat) (o : RecO) (ho : R b = some o) (i : Int) (i0 : 0 ≤ i) (i1 : i < o.fields.length) :
    Calls Try.prog 94 #[pv (some b), .nilIface, .int .i64 i] w fun e w' => e = .returned (pv (o.fields.getD i.toNat none)) ∧ w = w' := by
  have hc : w.cell? ⟨b, 1, none⟩ = some (.slice (some ⟨o.fb, 0, none⟩) o.fields.length o.fields.length) := h.cell ho 0
  have hlt : i.toNat < o.fields.length := by omega
  have hx0 : o.fields[i.toNat]? = some (o.fields.getD i.toNat none) := by simp [List.getD_eq_getElem?_getD, List.getElem?_eq_getElem hlt]
  have hx : (o.fields.map pv)[i.toNat]? = some (pv (o.fields.getD i.toNat none)) := by rw [List.getElem?_map, hx0]; rfl
  have C := cell_loadn_Recordint o.fb i.toNat 170 _ w (h.fld b o ho) _ hx (h.recPtr (h.okField ho hx0))
  generalize o.fields.getD i.toNat none = p at *
  have HC := Lib.hid C
  clear C h hx hx0
  show Calls Try.prog 94 #[.pointer (some ⟨b, 0, none⟩), .nilIface, .int .i64 i] w _
  go_enter Try.func94, Try.ntmps94
  go_wp2_with fail
  refine HC.out.mono ?_
  rintro e w1 ⟨rfl, rfl⟩
  clear HC
  go_wp2
  go_ret
  exact ⟨rfl, rfl⟩

set_option maxHeartbeats 400000 in
theorem infon_int (R : Nat → Option RecO) (X : Nat → Option ScxO) (w : World) (h : Repint w R X)  (b : Nat) (o : RecO) (ho : R b = some o) :
    Calls Try.prog 71 #[pv (some b), .nilIface] w fun e w' => e = .returned (pv o.info) ∧ w = w' := by
  have C := cell_loadn_Scxint b 2 178 _ w (h.recs b o ho).1 o.info (h.at_ ho 1) (h.scxPtr (h.okInfo ho))
  have HC := Lib.hid C
  clear C h
  show Calls Try.prog 71 #[.pointer (some ⟨b, 0, none⟩), .nilIface] w _
  go_enter Try.func71, Try.ntmps71
  go_wp2_with fail
  refine HC.out.mono ?_
  rintro e w1 ⟨rfl, rfl⟩
  clear HC
  go_wp2
  go_ret
  exact ⟨rfl, rfl⟩

set_option maxHeartbeats 400000 in
theorem staten_int (R : Nat → Option RecO) (X : Nat → Option ScxO) (w : World) (h : Repint w R X)  (b : Nat) (o : ScxO) (ho : X b = some o) (n0 : 0 ≤ o.state) (n1 : o.state ≤ 1000) :
    Calls Try.prog 99 #[pv (some b), .nilIface] w fun e w' => e = .returned (.int .i64 o.state) ∧ w = w' := by
  have C := num_loadn b 7 152 _ w (h.scx b o ho) o.state n0 n1 rfl
  have HC := Lib.hid C
  clear C h
  show Calls Try.prog 99 #[.pointer (some ⟨b, 0, none⟩), .nilIface] w _
  go_enter Try.func99, Try.ntmps99
  go_wp2_with fail
  refine HC.out.mono ?_
  rintro e w1 ⟨rfl, rfl⟩
  clear HC
  go_wp2
  go_ret
  exact ⟨rfl, rfl⟩

set_option maxHeartbeats 400000 in
theorem markedn_false_int (R : Nat → Option RecO) (X : Nat → Option ScxO) (w : World) (h : Repint w R X)  (b : Nat) (o : RecO) (ho : R b = some o) (hm : o.mark = false) :
    Calls Try.prog 97 #[pv (some b), .nilIface] w fun e w' => e = .returned (.bool false) ∧ w = w' := by
  have C := mark_loadn_false b 3 178 _ w (h.recs b o ho).1 (by rw [show 3 = 1 + 2 from rfl, h.at_ ho 2]; simp [RecO.tail, u32b, hm])
  have HC := Lib.hid C
  clear C h hm
  show Calls Try.prog 97 #[.pointer (some ⟨b, 0, none⟩), .nilIface] w _
  go_enter Try.func97, Try.ntmps97
  go_wp2_with fail
  refine HC.out.mono ?_
  rintro e w1 ⟨rfl, rfl⟩
  clear HC
  go_wp2
  go_ret
  exact ⟨rfl, rfl⟩

set_option maxHeartbeats 400000 in
theorem allfrozenn_false_int (R : Nat → Option RecO) (X : Nat → Option ScxO) (w : World) (h : Repint w R X)  (b : Nat) (o : ScxO) (ho : X b = some o) (hm : o.frozen = false) :
    Calls Try.prog 72 #[pv (some b), .nilIface] w fun e w' => e = .returned (.bool false) ∧ w = w' := by
  have C := mark_loadn_false b 8 152 _ w (h.scx b o ho) (by simp [ScxO.cells, u32b, hm])
  have HC := Lib.hid C
  clear C h hm
  show Calls Try.prog 72 #[.pointer (some ⟨b, 0, none⟩), .nilIface] w _
  go_enter Try.func72, Try.ntmps72
  go_wp2_with fail
  refine HC.out.mono ?_
  rintro e w1 ⟨rfl, rfl⟩
  clear HC
  go_wp2
  go_ret
  exact ⟨rfl, rfl⟩

set_option maxHeartbeats 400000 in
theorem markedn_true_int (R : Nat → Option RecO) (X : Nat → Option ScxO) (w : World) (h : Repint w R X)  (b : Nat) (o : RecO) (ho : R b = some o) (hm : o.mark = true) :
    Calls Try.prog 97 #[pv (some b), .nilIface] w fun e w' => e = .returned (.bool true) ∧ w = w' := by
  have C := mark_loadn_true b 3 178 _ w (h.recs b o ho).1 (by rw [show 3 = 1 + 2 from rfl, h.at_ ho 2]; simp [RecO.tail, u32b, hm])
  have HC := Lib.hid C
  clear C h hm
  show Calls Try.prog 97 #[.pointer (some ⟨b, 0, none⟩), .nilIface] w _
  go_enter Try.func97, Try.ntmps97
  go_wp2_with fail
  refine HC.out.mono ?_
  rintro e w1 ⟨rfl, rfl⟩
  clear HC
  go_wp2
  go_ret
  exact ⟨rfl, rfl⟩

set_option maxHeartbeats 400000 in
theorem allfrozenn_true_int (R : Nat → Option RecO) (X : Nat → Option ScxO) (w : World) (h : Repint w R X)  (b : Nat) (o : ScxO) (ho : X b = some o) (hm : o.frozen = true) :
    Calls Try.prog 72 #[pv (some b), .nilIface] w fun e w' => e = .returned (.bool true) ∧ w = w' := by
  have C := mark_loadn_true b 8 152 _ w (h.scx b o ho) (by simp [ScxO.cells, u32b, hm])
  have HC := Lib.hid C
  clear C h hm
  show Calls Try.prog 72 #[.pointer (some ⟨b, 0, none⟩), .nilIface] w _
  go_enter Try.func72, Try.ntmps72
  go_wp2_with fail
  refine HC.out.mono ?_
  rintro e w1 ⟨rfl, rfl⟩
  clear HC
  go_wp2
  go_ret
  exact ⟨rfl, rfl⟩

abbrev RepL12thing := Rep 124 2 191 141
theorem tys_L12thing : Tys 124 191 141 TT ti := ⟨by decide, by decide, by decide, by decide, by decide, by decide, by decide, by decide, by decide⟩

set_option maxHeartbeats 400000 in
theorem len_L12thing (R : Nat → Option RecO) (X : Nat → Option ScxO) (w : World) (h : RepL12thing w R X) (b : Nat) (o : RecO) (ho : R b = some o) :
    Calls Try.prog 49 #[pv (some b)] w fun e w' => e = .returned (.int .i64 o.fields.length) ∧ w = w' := by
  have hc : w.cell? ⟨b, 2, none⟩ = some (.slice (some ⟨o.fb, 0, none⟩) o.fields.length o.fields.length) := h.cell ho 0
  show Calls Try.prog 49 #[.pointer (some ⟨b, 0, none⟩)] w _
  go_enter Try.func49, Try.ntmps49
  go_wp2
  go_ret
  exact ⟨rfl, rfl⟩

set_option maxHeartbeats 400000 in
theorem get_L12thing (B : Nat) (g : Option Nat) (ks : List Int) (R : Nat → Option RecO) (X : Nat → Option ScxO) (w : World) (h : RepL12thing w R X) (hg : GAtI w B g ks) (hbB : B ≤ w.heap.size) (hl : ks.length ≤ 1000000000) (b : Nat) (o : RecO) (ho : R b = some o) (i : Int) (i0 : 0 ≤ i) (i1 : i < o.fields.length) :
    Calls Try.prog 50 #[pv (some b), gvI g, .int .i64 i] w fun e w' => e = .returned (pv (o.fields.getD i.toNat none)) ∧ StepI B g w w' (ks ++ [1]) (fun _ => False) ∧ RepL12thing w' R X := by
  have hc : w.cell? ⟨b, 2, none⟩ = some (.slice (some ⟨o.fb, 0, none⟩) o.fields.length o.fields.length) := h.cell ho 0
  have hlt : i.toNat < o.fields.length := by omega
  have hx0 : o.fields[i.toNat]? = some (o.fields.getD i.toNat none) := by simp [List.getD_eq_getElem?_getD, List.getElem?_eq_getElem hlt]
  have hx : (o.fields.map pv)[i.toNat]? = some (pv (o.fields.getD i.toNat none)) := by rw [List.getElem?_map, hx0]; rfl
  have C := cell_load_RecordL12thing B g ks o.fb i.toNat 191 _ w hg hbB hl (h.fld b o ho) (by decide) (by decide) _ hx (h.recPtr (h.okField ho hx0))
  have HS := fun w' hs => h.step tys_L12thing hg (w' := w') (ks' := ks ++ [1]) hs
  generalize o.fields.getD i.toNat none = p at *
  clear hx hx0 h hg
  show Calls Try.prog 50 #[.pointer (some ⟨b, 0, none⟩), gvI g, .int .i64 i] w _
  have HC := Lib.hid C
  have HS' := Lib.hid HS
  clear C HS
  go_enter Try.func50, Try.ntmps50
  go_wp2_with fail
  refine HC.out.mono ?_
  rintro e w1 ⟨rfl, H⟩
  have H2 := Lib.hid (HS'.out w1 H)
  have H1 := Lib.hid H
  clear H HC HS'
  go_wp2
  go_ret
  exact ⟨rfl, H1.out, H2.out⟩

set_option maxHeartbeats 400000 in
theorem swing_L12thing (B : Nat) (g : Option Nat) (ks : List Int) (R : Nat → Option RecO) (X : Nat → Option ScxO) (w : World) (h : RepL12thing w R X) (hg : GAtI w B g ks) (hbB : B ≤ w.heap.size) (hl : ks.length ≤ 1000000000) (b : Nat) (o : RecO) (ho : R b = some o) (i : Int) (i0 : 0 ≤ i) (i1 : i < o.fields.length) (x y : Option Nat) (hx : Ok R x) (hy : Ok R y) :
    Calls Try.prog 55 #[pv (some b), gvI g, .int .i64 i, pv x, pv y] w fun e w' => e = .returned (.bool (decide (o.fields.getD i.toNat none = x))) ∧ StepI B g w w' (ks ++ [5]) (fun k => k = o.fb) ∧
      RepL12thing w' (upd R b { o with fields := if o.fields.getD i.toNat none = x then o.fields.set i.toNat y else o.fields }) X := by
  have hc : w.cell? ⟨b, 2, none⟩ = some (.slice (some ⟨o.fb, 0, none⟩) o.fields.length o.fields.length) := h.cell ho 0
  have hlt : i.toNat < o.fields.length := by omega
  have hx0 : o.fields[i.toNat]? = some (o.fields.getD i.toNat none) := by simp [List.getD_eq_getElem?_getD, List.getElem?_eq_getElem hlt]
  have hx1 : (o.fields.map pv)[i.toNat]? = some (pv (o.fields.getD i.toNat none)) := by rw [List.getElem?_map, hx0]; rfl
  have C := cell_cas_RecordL12thing B g ks o.fb i.toNat 191 _ w hg hbB hl (h.fld b o ho) (by decide) (by decide) _ x y hx1 (h.recPtr (h.okField ho hx0)) (h.recPtr hx) (h.recPtr hy)
  have HS : ∀ w', StepI B g w w' (ks ++ [5]) (fun k => k = o.fb) → Blk w' o.fb 191 (if o.fields.getD i.toNat none = x then (o.fields.map pv).set i.toNat (pv y) else o.fields.map pv) →
      RepL12thing w' (upd R b { o with fields := if o.fields.getD i.toNat none = x then o.fields.set i.toNat y else o.fields }) X := fun w' hs hb => by
    refine h.setFields tys_L12thing hg ho hs ?_ ?_ ?_
    · split <;> simp
    · split at hb
      · rw [if_pos ‹_›, List.map_set]; exact hb
      · rw [if_neg ‹_›]; exact hb
    · intro z hz
      split at hz
      · rcases List.mem_or_eq_of_mem_set hz with hz | hz
        · exact h.kf b o ho z hz
        · exact hy z hz.symm
      · exact h.kf b o ho z hz
  generalize o.fields.getD i.toNat none = p at *
  clear hx hx0 hx1 hy h hg
  show Calls Try.prog 55 #[.pointer (some ⟨b, 0, none⟩), gvI g, .int .i64 i, pv x, pv y] w _
  refine calls_hide fun Q HQ => ?_
  have HQ' := Lib.hid HQ
  clear HQ
  have HC := Lib.hid C
  have HS' := Lib.hid HS
  clear C HS
  go_enter Try.func55, Try.ntmps55
  go_wp2_with fail
  refine HC.out.mono ?_
  rintro e w1 ⟨rfl, H, hb⟩
  have H2 := Lib.hid (HS'.out w1 H hb)
  have H1 := Lib.hid H
  clear H HC HS' hb
  go_wp2
  exact HQ'.out _ _ ⟨rfl, H1.out, H2.out⟩

set_option maxHeartbeats 400000 in
theorem info_L12thing (B : Nat) (g : Option Nat) (ks : List Int) (R : Nat → Option RecO) (X : Nat → Option ScxO) (w : World) (h : RepL12thing w R X) (hg : GAtI w B g ks) (hbB : B ≤ w.heap.size) (hl : ks.length ≤ 1000000000) (b : Nat) (o : RecO) (ho : R b = some o) :
    Calls Try.prog 52 #[pv (some b), gvI g] w fun e w' => e = .returned (pv o.info) ∧ StepI B g w w' (ks ++ [1]) (fun _ => False) ∧ RepL12thing w' R X := by
  have C := cell_load_ScxL12thing B g ks b 3 124 _ w hg hbB hl (h.recs b o ho).1 (by decide) (by decide) o.info (h.at_ ho 1) (h.scxPtr (h.okInfo ho))
  have HS := fun w' hs => h.step tys_L12thing hg (w' := w') (ks' := ks ++ [1]) hs
  clear h hg
  show Calls Try.prog 52 #[.pointer (some ⟨b, 0, none⟩), gvI g] w _
  have HC := Lib.hid C
  have HS' := Lib.hid HS
  clear C HS
  go_enter Try.func52, Try.ntmps52
  go_wp2_with fail
  refine HC.out.mono ?_
  rintro e w1 ⟨rfl, H⟩
  have H2 := Lib.hid (HS'.out w1 H)
  have H1 := Lib.hid H
  clear H HC HS'
  go_wp2
  go_ret
  exact ⟨rfl, H1.out, H2.out⟩

set_option maxHeartbeats 400000 in
theorem freeze_L12thing (B : Nat) (g : Option Nat) (ks : List Int) (R : Nat → Option RecO) (X : Nat → Option ScxO) (w : World) (h : RepL12thing w R X) (hg : GAtI w B g ks) (hbB : B ≤ w.heap.size) (hl : ks.length ≤ 1000000000) (b : Nat) (o : RecO) (ho : R b = some o) (x y : Option Nat) (hx : Ok X x) (hy : Ok X y) :
    Calls Try.prog 57 #[pv (some b), gvI g, pv x, pv y] w fun e w' => e = .returned (.bool (decide (o.info = x))) ∧ StepI B g w w' (ks ++ [5]) (fun k => k = b) ∧
      RepL12thing w' (upd R b { o with info := if o.info = x then y else o.info }) X := by
  have C := cell_cas_ScxL12thing B g ks b 3 124 _ w hg hbB hl (h.recs b o ho).1 (by decide) (by decide) o.info x y (h.at_ ho 1) (h.scxPtr (h.okInfo ho)) (h.scxPtr hx) (h.scxPtr hy)
  have HS : ∀ w', StepI B g w w' (ks ++ [5]) (fun k => k = b) → Blk w' b 124 (if o.info = x then o.cells.set 3 (pv y) else o.cells) →
      RepL12thing w' (upd R b { o with info := if o.info = x then y else o.info }) X := fun w' hs hb => by
    refine h.setRec tys_L12thing hg ho hs rfl rfl rfl ?_ ?_
    · split at hb
      · rw [if_pos ‹_›]
        rw [show 3 = 2 + 1 from rfl, o.set_tail (h.recs b o ho).2] at hb
        exact hb
      · rw [if_neg ‹_›]; exact hb
    · show Ok X (if o.info = x then y else o.info)
      split
      · exact hy
      · exact h.okInfo ho
  clear hx hy h hg
  show Calls Try.prog 57 #[.pointer (some ⟨b, 0, none⟩), gvI g, pv x, pv y] w _
  refine calls_hide fun Q HQ => ?_
  have HQ' := Lib.hid HQ
  clear HQ
  have HC := Lib.hid C
  have HS' := Lib.hid HS
  clear C HS
  go_enter Try.func57, Try.ntmps57
  go_wp2_with fail
  refine HC.out.mono ?_
  rintro e w1 ⟨rfl, H, hb⟩
  have H2 := Lib.hid (HS'.out w1 H hb)
  have H1 := Lib.hid H
  clear H HC HS' hb
  go_wp2
  exact HQ'.out _ _ ⟨rfl, H1.out, H2.out⟩

set_option maxHeartbeats 400000 in
theorem marked_L12thing (B : Nat) (g : Option Nat) (ks : List Int) (R : Nat → Option RecO) (X : Nat → Option ScxO) (w : World) (h : RepL12thing w R X) (hg : GAtI w B g ks) (hbB : B ≤ w.heap.size) (hl : ks.length ≤ 1000000000) (b : Nat) (o : RecO) (ho : R b = some o) :
    Calls Try.prog 51 #[pv (some b), gvI g] w fun e w' => e = .returned (.bool o.mark) ∧ StepI B g w w' (ks ++ [1]) (fun _ => False) ∧ RepL12thing w' R X := by
  have HS := fun w' hs => h.step tys_L12thing hg (w' := w') (ks' := ks ++ [1]) hs
  have HS' := Lib.hid HS
  clear HS
  cases hm : o.mark with
  | false =>
    have C := mark_load_false B g ks b 4 124 _ w hg hbB hl (h.recs b o ho).1 (by decide) (by decide) (by rw [show 4 = 2 + 2 from rfl, h.at_ ho 2]; simp [RecO.tail, ScxO.cells, u32b, hm])
    have HC := Lib.hid C
    clear C h hg hm
    show Calls Try.prog 51 #[.pointer (some ⟨b, 0, none⟩), gvI g] w _
    go_enter Try.func51, Try.ntmps51
    go_wp2_with fail
    refine HC.out.mono ?_
    rintro e w1 ⟨rfl, H⟩
    have H2 := Lib.hid (HS'.out w1 H)
    have H1 := Lib.hid H
    clear H HC HS'
    go_wp2
    go_ret
    exact ⟨rfl, H1.out, H2.out⟩
  | true =>
    have C := mark_load_true B g ks b 4 124 _ w hg hbB hl (h.recs b o ho).1 (by decide) (by decide) (by rw [show 4 = 2 + 2 from rfl, h.at_ ho 2]; simp [RecO.tail, ScxO.cells, u32b, hm])
    have HC := Lib.hid C
    clear C h hg hm
    show Calls Try.prog 51 #[.pointer (some ⟨b, 0, none⟩), gvI g] w _
    go_enter Try.func51, Try.ntmps51
    go_wp2_with fail
    refine HC.out.mono ?_
    rintro e w1 ⟨rfl, H⟩
    have H2 := Lib.hid (HS'.out w1 H)
    have H1 := Lib.hid H
    clear H HC HS'
    go_wp2
    go_ret
    exact ⟨rfl, H1.out, H2.out⟩

set_option maxHeartbeats 400000 in
theorem allfrozen_L12thing (B : Nat) (g : Option Nat) (ks : List Int) (R : Nat → Option RecO) (X : Nat → Option ScxO) (w : World) (h : RepL12thing w R X) (hg : GAtI w B g ks) (hbB : B ≤ w.heap.size) (hl : ks.length ≤ 1000000000) (b : Nat) (o : ScxO) (ho : X b = some o) :
    Calls Try.prog 54 #[pv (some b), gvI g] w fun e w' => e = .returned (.bool o.frozen) ∧ StepI B g w w' (ks ++ [1]) (fun _ => False) ∧ RepL12thing w' R X := by
  have HS := fun w' hs => h.step tys_L12thing hg (w' := w') (ks' := ks ++ [1]) hs
  have HS' := Lib.hid HS
  clear HS
  cases hm : o.frozen with
  | false =>
    have C := mark_load_false B g ks b 8 141 _ w hg hbB hl (h.scx b o ho) (by decide) (by decide) (by simp [RecO.tail, ScxO.cells, u32b, hm])
    have HC := Lib.hid C
    clear C h hg hm
    show Calls Try.prog 54 #[.pointer (some ⟨b, 0, none⟩), gvI g] w _
    go_enter Try.func54, Try.ntmps54
    go_wp2_with fail
    refine HC.out.mono ?_
    rintro e w1 ⟨rfl, H⟩
    have H2 := Lib.hid (HS'.out w1 H)
    have H1 := Lib.hid H
    clear H HC HS'
    go_wp2
    go_ret
    exact ⟨rfl, H1.out, H2.out⟩
  | true =>
    have C := mark_load_true B g ks b 8 141 _ w hg hbB hl (h.scx b o ho) (by decide) (by decide) (by simp [RecO.tail, ScxO.cells, u32b, hm])
    have HC := Lib.hid C
    clear C h hg hm
    show Calls Try.prog 54 #[.pointer (some ⟨b, 0, none⟩), gvI g] w _
    go_enter Try.func54, Try.ntmps54
    go_wp2_with fail
    refine HC.out.mono ?_
    rintro e w1 ⟨rfl, H⟩
    have H2 := Lib.hid (HS'.out w1 H)
    have H1 := Lib.hid H
    clear H HC HS'
    go_wp2
    go_ret
    exact ⟨rfl, H1.out, H2.out⟩

set_option maxHeartbeats 400000 in
theorem mark_L12thing (B : Nat) (g : Option Nat) (ks : List Int) (R : Nat → Option RecO) (X : Nat → Option ScxO) (w : World) (h : RepL12thing w R X) (hg : GAtI w B g ks) (hbB : B ≤ w.heap.size) (hl : ks.length ≤ 1000000000) (b : Nat) (o : RecO) (ho : R b = some o) :
    Calls Try.prog 58 #[pv (some b), gvI g] w fun e w' => e = .returned (.tuple #[]) ∧ StepI B g w w' (ks ++ [2]) (fun k => k = b) ∧ RepL12thing w' (upd R b { o with mark := true }) X := by
  have C := mark_store_true B g ks b 4 124 _ w hg hbB hl (h.recs b o ho).1 (by decide) (by decide) _ (h.at_ ho 2)
  have HS : ∀ w', StepI B g w w' (ks ++ [2]) (fun k => k = b) → Blk w' b 124 (o.cells.set 4 (.int .u32 1)) → RepL12thing w' (upd R b { o with mark := true }) X := fun w' hs hb => by
    refine h.setRec tys_L12thing hg ho hs rfl rfl rfl ?_ (fun x e => h.ki b o ho x e)
    rw [show 4 = 2 + 2 from rfl, o.set_tail (h.recs b o ho).2] at hb
    exact hb
  have HC := Lib.hid C
  have HS' := Lib.hid HS
  clear C HS h hg
  show Calls Try.prog 58 #[.pointer (some ⟨b, 0, none⟩), gvI g] w _
  go_enter Try.func58, Try.ntmps58
  go_wp2_with fail
  refine HC.out.mono ?_
  rintro e w1 ⟨rfl, H, hb⟩
  have H2 := Lib.hid (HS'.out w1 H hb)
  have H1 := Lib.hid H
  clear H HC HS' hb
  go_wp2
  go_end0
  exact ⟨rfl, H1.out, H2.out⟩

set_option maxHeartbeats 400000 in
theorem commit_L12thing (B : Nat) (g : Option Nat) (ks : List Int) (R : Nat → Option RecO) (X : Nat → Option ScxO) (w : World) (h : RepL12thing w R X) (hg : GAtI w B g ks) (hbB : B ≤ w.heap.size) (hl : ks.length ≤ 1000000000) (b : Nat) (o : ScxO) (ho : X b = some o) :
    Calls Try.prog 60 #[pv (some b), gvI g] w fun e w' => e = .returned (.tuple #[]) ∧ StepI B g w w' (ks ++ [2]) (fun k => k = b) ∧ RepL12thing w' R (upd X b { o with state := 1 }) := by
  have C := num_store B g ks b 7 141 _ w hg hbB hl (h.scx b o ho) (by decide) (by decide) 1 (by decide) (by decide) (.int .i64 o.state) rfl
  have HS : ∀ w', StepI B g w w' (ks ++ [2]) (fun k => k = b) → Blk w' b 141 (o.cells.set 7 (.int .i64 1)) → RepL12thing w' R (upd X b { o with state := 1 }) := fun w' hs hb => by
    exact h.setScx tys_L12thing hg ho hs hb
  have HC := Lib.hid C
  have HS' := Lib.hid HS
  clear C HS h hg
  show Calls Try.prog 60 #[.pointer (some ⟨b, 0, none⟩), gvI g] w _
  go_enter Try.func60, Try.ntmps60
  go_wp2_with fail
  refine HC.out.mono ?_
  rintro e w1 ⟨rfl, H, hb⟩
  have H2 := Lib.hid (HS'.out w1 H hb)
  have H1 := Lib.hid H
  clear H HC HS' hb
  go_wp2
  go_end0
  exact ⟨rfl, H1.out, H2.out⟩

set_option maxHeartbeats 400000 in
theorem abort_L12thing (B : Nat) (g : Option Nat) (ks : List Int) (R : Nat → Option RecO) (X : Nat → Option ScxO) (w : World) (h : RepL12thing w R X) (hg : GAtI w B g ks) (hbB : B ≤ w.heap.size) (hl : ks.length ≤ 1000000000) (b : Nat) (o : ScxO) (ho : X b = some o) :
    Calls Try.prog 59 #[pv (some b), gvI g] w fun e w' => e = .returned (.tuple #[]) ∧ StepI B g w w' (ks ++ [2]) (fun k => k = b) ∧ RepL12thing w' R (upd X b { o with state := 2 }) := by
  have C := num_store B g ks b 7 141 _ w hg hbB hl (h.scx b o ho) (by decide) (by decide) 2 (by decide) (by decide) (.int .i64 o.state) rfl
  have HS : ∀ w', StepI B g w w' (ks ++ [2]) (fun k => k = b) → Blk w' b 141 (o.cells.set 7 (.int .i64 2)) → RepL12thing w' R (upd X b { o with state := 2 }) := fun w' hs hb => by
    exact h.setScx tys_L12thing hg ho hs hb
  have HC := Lib.hid C
  have HS' := Lib.hid HS
  clear C HS h hg
  show Calls Try.prog 59 #[.pointer (some ⟨b, 0, none⟩), gvI g] w _
  go_enter Try.func59, Try.ntmps59
  go_wp2_with fail
  refine HC.out.mono ?_
  rintro e w1 ⟨rfl, H, hb⟩
  have H2 := Lib.hid (HS'.out w1 H hb)
  have H1 := Lib.hid H
  clear H HC HS' hb
  go_wp2
  go_end0
  exact ⟨rfl, H1.out, H2.out⟩

set_option maxHeartbeats 400000 in
theorem setallfrozen_L12thing (B : Nat) (g : Option Nat) (ks : List Int) (R : Nat → Option RecO) (X : Nat → Option ScxO) (w : World) (h : RepL12thing w R X) (hg : GAtI w B g ks) (hbB : B ≤ w.heap.size) (hl : ks.length ≤ 1000000000) (b : Nat) (o : ScxO) (ho : X b = some o) :
    Calls Try.prog 61 #[pv (some b), gvI g] w fun e w' => e = .returned (.tuple #[]) ∧ StepI B g w w' (ks ++ [2]) (fun k => k = b) ∧ RepL12thing w' R (upd X b { o with frozen := true }) := by
  have C := mark_store_true B g ks b 8 141 _ w hg hbB hl (h.scx b o ho) (by decide) (by decide) (u32b o.frozen) rfl
  have HS : ∀ w', StepI B g w w' (ks ++ [2]) (fun k => k = b) → Blk w' b 141 (o.cells.set 8 (.int .u32 1)) → RepL12thing w' R (upd X b { o with frozen := true }) := fun w' hs hb => by
    exact h.setScx tys_L12thing hg ho hs hb
  have HC := Lib.hid C
  have HS' := Lib.hid HS
  clear C HS h hg
  show Calls Try.prog 61 #[.pointer (some ⟨b, 0, none⟩), gvI g] w _
  go_enter Try.func61, Try.ntmps61
  go_wp2_with fail
  refine HC.out.mono ?_
  rintro e w1 ⟨rfl, H, hb⟩
  have H2 := Lib.hid (HS'.out w1 H hb)
  have H1 := Lib.hid H
  clear H HC HS' hb
  go_wp2
  go_end0
  exact ⟨rfl, H1.out, H2.out⟩

set_option maxHeartbeats 400000 in
theorem state_L12thing (B : Nat) (g : Option Nat) (ks : List Int) (R : Nat → Option RecO) (X : Nat → Option ScxO) (w : World) (h : RepL12thing w R X) (hg : GAtI w B g ks) (hbB : B ≤ w.heap.size) (hl : ks.length ≤ 1000000000) (b : Nat) (o : ScxO) (ho : X b = some o) (n0 : 0 ≤ o.state) (n1 : o.state ≤ 1000) :
    Calls Try.prog 53 #[pv (some b), gvI g] w fun e w' => e = .returned (.int .i64 o.state) ∧ StepI B g w w' (ks ++ [1]) (fun _ => False) ∧ RepL12thing w' R X := by
  have C := num_load B g ks b 7 141 _ w hg hbB hl (h.scx b o ho) (by decide) (by decide) o.state n0 n1 rfl
  have HS := fun w' hs => h.step tys_L12thing hg (w' := w') (ks' := ks ++ [1]) hs
  clear h hg
  show Calls Try.prog 53 #[.pointer (some ⟨b, 0, none⟩), gvI g] w _
  have HC := Lib.hid C
  have HS' := Lib.hid HS
  clear C HS
  go_enter Try.func53, Try.ntmps53
  go_wp2_with fail
  refine HC.out.mono ?_
  rintro e w1 ⟨rfl, H⟩
  have H2 := Lib.hid (HS'.out w1 H)
  have H1 := Lib.hid H
  clear H HC HS'
  go_wp2
  go_ret
  exact ⟨rfl, H1.out, H2.out⟩

set_option maxHeartbeats 400000 in
theorem getn_L12thing (R : Nat → Option RecO) (X : Nat → Option ScxO) (w : World) (h : RepL12thing w R X)  (b : Nat) (o : RecO) (ho : R b = some o) (i : Int) (i0 : 0 ≤ i) (i1 : i < o.fields.length) :
    Calls Try.prog 50 #[pv (some b), .nilIface, .int .i64 i] w fun e w' => e = .returned (pv (o.fields.getD i.toNat none)) ∧ w = w' := by
  have hc : w.cell? ⟨b, 2, none⟩ = some (.slice (some ⟨o.fb, 0, none⟩) o.fields.length o.fields.length) := h.cell ho 0
  have hlt : i.toNat < o.fields.length := by omega
  have hx0 : o.fields[i.toNat]? = some (o.fields.getD i.toNat none) := by simp [List.getD_eq_getElem?_getD, List.getElem?_eq_getElem hlt]
  have hx : (o.fields.map pv)[i.toNat]? = some (pv (o.fields.getD i.toNat none)) := by rw [List.getElem?_map, hx0]; rfl
  have C := cell_loadn_RecordL12thing o.fb i.toNat 191 _ w (h.fld b o ho) _ hx (h.recPtr (h.okField ho hx0))
  generalize o.fields.getD i.toNat none = p at *
  have HC := Lib.hid C
  clear C h hx hx0
  show Calls Try.prog 50 #[.pointer (some ⟨b, 0, none⟩), .nilIface, .int .i64 i] w _
  go_enter Try.func50, Try.ntmps50
  go_wp2_with fail
  refine HC.out.mono ?_
  rintro e w1 ⟨rfl, rfl⟩
  clear HC
  go_wp2
  go_ret
  exact ⟨rfl, rfl⟩

set_option maxHeartbeats 400000 in
theorem infon_L12thing (R : Nat → Option RecO) (X : Nat → Option ScxO) (w : World) (h : RepL12thing w R X)  (b : Nat) (o : RecO) (ho : R b = some o) :
    Calls Try.prog 52 #[pv (some b), .nilIface] w fun e w' => e = .returned (pv o.info) ∧ w = w' := by
  have C := cell_loadn_ScxL12thing b 3 124 _ w (h.recs b o ho).1 o.info (h.at_ ho 1) (h.scxPtr (h.okInfo ho))
  have HC := Lib.hid C
  clear C h
  show Calls Try.prog 52 #[.pointer (some ⟨b, 0, none⟩), .nilIface] w _
  go_enter Try.func52, Try.ntmps52
  go_wp2_with fail
  refine HC.out.mono ?_
  rintro e w1 ⟨rfl, rfl⟩
  clear HC
  go_wp2
  go_ret
  exact ⟨rfl, rfl⟩

set_option maxHeartbeats 400000 in
theorem staten_L12thing (R : Nat → Option RecO) (X : Nat → Option ScxO) (w : World) (h : RepL12thing w R X)  (b : Nat) (o : ScxO) (ho : X b = some o) (n0 : 0 ≤ o.state) (n1 : o.state ≤ 1000) :
    Calls Try.prog 53 #[pv (some b), .nilIface] w fun e w' => e = .returned (.int .i64 o.state) ∧ w = w' := by
  have C := num_loadn b 7 141 _ w (h.scx b o ho) o.state n0 n1 rfl
  have HC := Lib.hid C
  clear C h
  show Calls Try.prog 53 #[.pointer (some ⟨b, 0, none⟩), .nilIface] w _
  go_enter Try.func53, Try.ntmps53
  go_wp2_with fail
  refine HC.out.mono ?_
  rintro e w1 ⟨rfl, rfl⟩
  clear HC
  go_wp2
  go_ret
  exact ⟨rfl, rfl⟩

set_option maxHeartbeats 400000 in
theorem markedn_false_L12thing (R : Nat → Option RecO) (X : Nat → Option ScxO) (w : World) (h : RepL12thing w R X)  (b : Nat) (o : RecO) (ho : R b = some o) (hm : o.mark = false) :
    Calls Try.prog 51 #[pv (some b), .nilIface] w fun e w' => e = .returned (.bool false) ∧ w = w' := by
  have C := mark_loadn_false b 4 124 _ w (h.recs b o ho).1 (by rw [show 4 = 2 + 2 from rfl, h.at_ ho 2]; simp [RecO.tail, u32b, hm])
  have HC := Lib.hid C
  clear C h hm
  show Calls Try.prog 51 #[.pointer (some ⟨b, 0, none⟩), .nilIface] w _
  go_enter Try.func51, Try.ntmps51
  go_wp2_with fail
  refine HC.out.mono ?_
  rintro e w1 ⟨rfl, rfl⟩
  clear HC
  go_wp2
  go_ret
  exact ⟨rfl, rfl⟩

set_option maxHeartbeats 400000 in
theorem allfrozenn_false_L12thing (R : Nat → Option RecO) (X : Nat → Option ScxO) (w : World) (h : RepL12thing w R X)  (b : Nat) (o : ScxO) (ho : X b = some o) (hm : o.frozen = false) :
    Calls Try.prog 54 #[pv (some b), .nilIface] w fun e w' => e = .returned (.bool false) ∧ w = w' := by
  have C := mark_loadn_false b 8 141 _ w (h.scx b o ho) (by simp [ScxO.cells, u32b, hm])
  have HC := Lib.hid C
  clear C h hm
  show Calls Try.prog 54 #[.pointer (some ⟨b, 0, none⟩), .nilIface] w _
  go_enter Try.func54, Try.ntmps54
  go_wp2_with fail
  refine HC.out.mono ?_
  rintro e w1 ⟨rfl, rfl⟩
  clear HC
  go_wp2
  go_ret
  exact ⟨rfl, rfl⟩

set_option maxHeartbeats 400000 in
theorem markedn_true_L12thing (R : Nat → Option RecO) (X : Nat → Option ScxO) (w : World) (h : RepL12thing w R X)  (b : Nat) (o : RecO) (ho : R b = some o) (hm : o.mark = true) :
    Calls Try.prog 51 #[pv (some b), .nilIface] w fun e w' => e = .returned (.bool true) ∧ w = w' := by
  have C := mark_loadn_true b 4 124 _ w (h.recs b o ho).1 (by rw [show 4 = 2 + 2 from rfl, h.at_ ho 2]; simp [RecO.tail, u32b, hm])
  have HC := Lib.hid C
  clear C h hm
  show Calls Try.prog 51 #[.pointer (some ⟨b, 0, none⟩), .nilIface] w _
  go_enter Try.func51, Try.ntmps51
  go_wp2_with fail
  refine HC.out.mono ?_
  rintro e w1 ⟨rfl, rfl⟩
  clear HC
  go_wp2
  go_ret
  exact ⟨rfl, rfl⟩

set_option maxHeartbeats 400000 in
theorem allfrozenn_true_L12thing (R : Nat → Option RecO) (X : Nat → Option ScxO) (w : World) (h : RepL12thing w R X)  (b : Nat) (o : ScxO) (ho : X b = some o) (hm : o.frozen = true) :
    Calls Try.prog 54 #[pv (some b), .nilIface] w fun e w' => e = .returned (.bool true) ∧ w = w' := by
  have C := mark_loadn_true b 8 141 _ w (h.scx b o ho) (by simp [ScxO.cells, u32b, hm])
  have HC := Lib.hid C
  clear C h hm
  show Calls Try.prog 54 #[.pointer (some ⟨b, 0, none⟩), .nilIface] w _
  go_enter Try.func54, Try.ntmps54
  go_wp2_with fail
  refine HC.out.mono ?_
  rintro e w1 ⟨rfl, rfl⟩
  clear HC
  go_wp2
  go_ret
  exact ⟨rfl, rfl⟩
end Go.Proofs.Ytphhdmopfmelbaa
