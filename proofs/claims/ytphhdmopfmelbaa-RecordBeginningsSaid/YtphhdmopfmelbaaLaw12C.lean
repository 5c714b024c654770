/- larchlaw12: fixed. -/
import Derived.Test.YtphhdmopfmelbaaLaw12B
namespace Go.Proofs.Ytphhdmopfmelbaa
open Go.RowKit Go.Proofs.YtphhdmopfmelbaaW.PrintWords Go.Proofs.YtphhdmopfmelbaaW.PrintLast
set_option linter.unusedVariables false
set_option linter.unusedSimpArgs false

theorem below_allocs (os : List Obj) (w : World) : Below w.heap.size w (os.foldl World.alloc w) := by
  induction os generalizing w with
  | nil => exact Below.refl _ _
  | cons o os ih => exact ((Below.refl w.heap.size w).alloc (Nat.le_refl _) o).trans ((ih (w.alloc o)).mono (by simp))
theorem blk_allocs (os : List Obj) (w : World) (i : Nat) (T : Nat) (xs : List Value) (h : os[i]? = some (.cells xs.toArray T)) : Blk (os.foldl World.alloc w) (w.heap.size + i) T xs := by
  induction os generalizing w i with
  | nil => simp at h
  | cons o os ih =>
    cases i with
    | zero =>
      simp only [List.getElem?_cons_zero, Option.some.injEq] at h
      subst h
      exact (Fr.of_below0 (S := fun _ => False) (below_allocs os _)).blk (Blk.new w T xs) id
    | succ i =>
      have := ih (w.alloc o) i (by simpa using h)
      rw [World.size_alloc] at this
      rwa [show w.heap.size + (i + 1) = w.heap.size + 1 + i by omega]
theorem C_of_blk {α : Type} {enc : α → Value} {h1 : ∀ x, (enc x).oneCell' = true} {w : World} {b T : Nat} {xs : List α} (h : Blk w b T (xs.map enc)) (hl : xs.length ≤ 9223372036854775807) : (Kd.scalar enc h1).C w (some ⟨b, 0, none⟩) xs.length xs := by
  refine ⟨rfl, hl, fun _ => ⟨_, rfl, fun j p hp => ⟨[enc p], rfl, rfl, fun i u hu => ?_⟩⟩⟩
  cases i with
  | zero =>
    simp only [List.getElem?_cons_zero, Option.some.injEq] at hu
    subst hu
    rw [Go.Proofs.YtphhdmopfmelbaaW.PrintWords.add_plain, h.cell]
    simp [Kd.scalar, hp]
  | succ i => simp at hu
theorem CRow_of_blk {w : World} {b T : Nat} {us : List Value} {rows : List (List Int)} (h : Blk w b T us) (hl : us.length = rows.length) (hr : ∀ (i : Nat) (u : Value) (r : List Int), us[i]? = some u → rows[i]? = some r → ∃ A c, u = .slice A r.length c ∧ r.length ≤ c ∧ KInt.C w A r.length r) (hs : rows.length ≤ 9223372036854775807) :
    KRow.C w (some ⟨b, 0, none⟩) rows.length rows := by
  refine ⟨rfl, hs, fun _ => ⟨_, rfl, fun j p hp => ?_⟩⟩
  have hj := (List.getElem?_eq_some_iff.1 hp).1
  have hu := List.getElem?_eq_getElem (show j < us.length by omega)
  obtain ⟨A, c, e, k, hC⟩ := hr j _ p hu hp
  refine ⟨[us[j]], rfl, ⟨A, c, by rw [e], k, hC⟩, fun i u hu2 => ?_⟩
  cases i with
  | zero =>
    simp only [List.getElem?_cons_zero, Option.some.injEq] at hu2
    subst hu2
    rw [Go.Proofs.YtphhdmopfmelbaaW.PrintWords.add_plain, h.cell]
    have e : j * KRow.sz + 0 = j := by show j * 1 + 0 = j; omega
    rw [e]
    exact hu
  | succ i => simp at hu2

def fixD : WD := ⟨[[1], []], [-1, 0], [false, false], [0], [false]⟩
def fixL : List ActD := [⟨1, 0, 0, 0, 0⟩, ⟨2, 0, 0, 1, -1⟩, ⟨3, 1, 0, 0, 0⟩, ⟨4, 0, 0, -1, 0⟩, ⟨3, 0, 0, 0, 0⟩, ⟨8, 0, 0, 0, 0⟩]
theorem fix_run : runD fixD fixL = ([1, 1, 0, 1, 0, 0], ⟨[[-1], []], [0, 0], [false, false], [1], [false]⟩) := by rfl
theorem fix_kinds : kinds fixL = [1, 5, 1, 5, 1, 2] := by rfl
theorem lit_row (W : World) (T : Nat) (xs : List Int) : Row1 (W.alloc (.cells (xs.map (Value.int .i64)).toArray T)) (some ⟨W.heap.size, 0, none⟩) xs.length (xs.map (Value.int .i64)) := by
  have := Row1.of_blk (rest := []) (us := xs.map (Value.int .i64)) (by rw [List.append_nil]; exact Blk.new W T _)
  simpa using this
theorem same_ints' (A : Option Addr) (c n : Nat) (xs : List Int) (A' : Option Addr) (c' : Nat) (w : World) (hn : xs.length = n) (hl : n ≤ 1000000000000) (hr : Row1 w A n (xs.map (Value.int .i64))) (hr' : Row1 w A' n (xs.map (Value.int .i64))) :
    Calls Try.prog 21 #[.slice A n c, .slice A' n c'] w fun e w' => e = .returned (.bool true) ∧ ∃ m, w' = w.drewN m := by
  subst hn
  exact same_ints A c xs A' c' w hr hr' hl
theorem lit_row' (W : World) (T n : Nat) (cs : Array Value) (us : List Value) (m : Nat) (h : cs = us.toArray) (hn : us.length = n) : Row1 ((W.alloc (.cells cs T)).drewN m) (some ⟨W.heap.size, 0, none⟩) n us := by
  subst h hn
  have := Row1.of_blk (w := W.alloc (.cells us.toArray T)) (rest := []) (us := us) (by rw [List.append_nil]; exact Blk.new W T _)
  exact this.below (pw_below_drewN (Below.refl _ _) m)
/-- SameInts of a row and a list that is written out. -/
theorem same_lit (P : World) (s n : Nat) (cs : Array Value) (xs : List Int) (A : Option Addr) (c : Nat) (hs : P.heap.size = s) (hcs : cs = (xs.map (Value.int .i64)).toArray) (hn : xs.length = n) (hl : n ≤ 1000000000000) (hr : Row1 P A n (xs.map (Value.int .i64))) :
    Calls Try.prog 21 #[.slice A n c, .slice (some ⟨s, 0, none⟩) n n] (P.alloc (.cells cs TII)) fun e w' => e = .returned (.bool true) ∧ Below P.heap.size P w' := by
  subst hs
  have hb := (Below.refl P.heap.size P).alloc (Nat.le_refl _) (.cells cs TII)
  refine (same_ints' A c n xs _ _ _ hn hl (hr.below hb) (lit_row' P TII n cs _ 0 hcs (by simpa using hn))).mono ?_
  rintro e w' ⟨rfl, m, rfl⟩
  exact ⟨rfl, pw_below_drewN hb m⟩
theorem fix_E : playE fixD fixL = 0 := by
  have h1 : limitsD fixD = 0 := by unfold limitsD; rw [if_neg (by simp [fixD])]
  have h2 : formD fixD = 0 := by
    unfold formD
    rw [if_pos]
    refine ⟨rfl, rfl, rfl, fun i hi => ?_, by decide⟩
    have : i = 0 ∨ i = 1 := by simp [fixD] at hi; omega
    rcases this with rfl | rfl <;> exact ⟨by decide, by decide⟩
  unfold playE
  rw [if_neg (by rw [h1]; simp [fixL]), if_neg (by rw [h2]; simp)]
  decide
abbrev fixOs (h : Nat) : List Obj := [.cells #[.int .i64 1] 3, .cells #[] 3, .cells #[.slice (some ⟨h, 0, none⟩) 1 1, .slice (some ⟨h + 1, 0, none⟩) 0 0] 23, .cells #[.int .i64 (-1), .int .i64 0] 3, .cells #[.bool false, .bool false] 4, .cells #[.int .i64 0] 3, .cells #[.bool false] 4,
  .cells #[.slice (some ⟨h + 1 + 1, 0, none⟩) 2 2, .slice (some ⟨h + 1 + 1 + 1, 0, none⟩) 2 2, .slice (some ⟨h + 1 + 1 + 1 + 1, 0, none⟩) 2 2, .slice (some ⟨h + 1 + 1 + 1 + 1 + 1, 0, none⟩) 1 1, .slice (some ⟨h + 1 + 1 + 1 + 1 + 1 + 1, 0, none⟩) 1 1] TWD,
  .cells #[.int .i64 1, .int .i64 0, .int .i64 0, .int .i64 0, .int .i64 0, .int .i64 2, .int .i64 0, .int .i64 0, .int .i64 1, .int .i64 (-1), .int .i64 3, .int .i64 1, .int .i64 0, .int .i64 0, .int .i64 0, .int .i64 4, .int .i64 0, .int .i64 0, .int .i64 (-1), .int .i64 0, .int .i64 3, .int .i64 0, .int .i64 0, .int .i64 0, .int .i64 0, .int .i64 8, .int .i64 0, .int .i64 0, .int .i64 0, .int .i64 0] TAC]
abbrev fixV (h : Nat) : WV := ⟨some ⟨h + 1 + 1, 0, none⟩, 2, some ⟨h + 1 + 1 + 1, 0, none⟩, 2, some ⟨h + 1 + 1 + 1 + 1, 0, none⟩, 2, some ⟨h + 1 + 1 + 1 + 1 + 1, 0, none⟩, 1, some ⟨h + 1 + 1 + 1 + 1 + 1 + 1, 0, none⟩, 1⟩
theorem fix_reads (w : World) : (fixV w.heap.size).Reads ((fixOs w.heap.size).foldl World.alloc w) fixD := by
  have b := fun i T xs h => blk_allocs (fixOs w.heap.size) w i T xs h
  have b0 := b 0 _ _ rfl
  have b1 := b 1 _ _ rfl
  refine ⟨CRow_of_blk (rows := [[1], []]) (b 2 _ _ rfl) rfl ?_ (by simp), Nat.le_refl _, C_of_blk (xs := [-1, 0]) (b 3 _ _ rfl) (by simp), Nat.le_refl _, C_of_blk (xs := [false, false]) (b 4 _ _ rfl) (by simp), Nat.le_refl _, C_of_blk (xs := [0]) (b 5 _ _ rfl) (by simp), Nat.le_refl _, C_of_blk (xs := [false]) (b 6 _ _ rfl) (by simp), Nat.le_refl _⟩
  intro i u r hu hr
  match i, hu, hr with
  | 0, hu, hr =>
    simp at hu hr
    subst hu hr
    exact ⟨_, _, rfl, Nat.le_refl _, C_of_blk (xs := [1]) b0 (by simp)⟩
  | 1, hu, hr =>
    simp at hu hr
    subst hu hr
    exact ⟨_, _, rfl, Nat.le_refl _, C_of_blk (xs := []) b1 (by simp)⟩
  | i + 2, hu, hr => simp at hu
theorem fix_acts (w : World) : ActsAt ((fixOs w.heap.size).foldl World.alloc w) (some ⟨w.heap.size + 1 + 1 + 1 + 1 + 1 + 1 + 1 + 1, 0, none⟩) fixL := fun _ => ⟨_, _, rfl, fun j x hx i u hu => by
  have b := blk_allocs (fixOs w.heap.size) w 8 _ _ rfl
  refine (b.cell _).trans ?_
  match j, hx with
  | 0, hx => simp [fixL] at hx; subst hx; match i, hu with
    | 0, hu | 1, hu | 2, hu | 3, hu | 4, hu => exact hu
    | i + 5, hu => simp at hu
  | 1, hx => simp [fixL] at hx; subst hx; match i, hu with
    | 0, hu | 1, hu | 2, hu | 3, hu | 4, hu => exact hu
    | i + 5, hu => simp at hu
  | 2, hx => simp [fixL] at hx; subst hx; match i, hu with
    | 0, hu | 1, hu | 2, hu | 3, hu | 4, hu => exact hu
    | i + 5, hu => simp at hu
  | 3, hx => simp [fixL] at hx; subst hx; match i, hu with
    | 0, hu | 1, hu | 2, hu | 3, hu | 4, hu => exact hu
    | i + 5, hu => simp at hu
  | 4, hx => simp [fixL] at hx; subst hx; match i, hu with
    | 0, hu | 1, hu | 2, hu | 3, hu | 4, hu => exact hu
    | i + 5, hu => simp at hu
  | 5, hx => simp [fixL] at hx; subst hx; match i, hu with
    | 0, hu | 1, hu | 2, hu | 3, hu | 4, hu => exact hu
    | i + 5, hu => simp at hu
  | j + 6, hx => simp [fixL] at hx⟩

set_option maxHeartbeats 1000000 in
set_option maxRecDepth 100000 in
theorem law_fixed (w : World) : Calls Try.prog 15 #[] w fun e w' => e = .returned (.bool true) ∧ Below w.heap.size w w' := by
  refine calls_hide fun Q HQ => ?_
  have HQ' := Lib.hid HQ
  have HB := Lib.hid (below_allocs (fixOs w.heap.size) w)
  have HP := Lib.hid (rec_play _ (fixV w.heap.size) fixD (fix_reads w) (by simp [fixD]) (by simp [fixD]) (by simp [fixD]) _ 6 fixL (fix_acts w) (by simp [fixL]))
  clear HQ
  go_enter Try.func15, Try.ntmps15
  go_wp2_with fail
  refine HP.out.mono ?_
  rintro e w1 ⟨hbel, hpp⟩
  rcases hpp with ⟨h, _⟩ | ⟨_, ov, fv, iv, mv, sv, zv, kv, bs, rfl, ho⟩
  · exact absurd fix_E h
  have hout := ho.out
  have hwld := ho.wld
  have hkin := ho.kin
  rw [fix_run] at hout hwld
  rw [fix_kinds] at hkin
  obtain ⟨v', rfl, rfl, rfl, rfl, rfl, hrd⟩ := hwld.reads
  change w1.ownsRow _ TII 1 ov 6 _ at hout
  change w1.ownsRow _ TII 1 kv 6 _ at hkin
  obtain ⟨Ao, co, rfl, hro, _⟩ := owns_slice hout
  obtain ⟨Ak, ck, rfl, hrk, _⟩ := owns_slice hkin
  have HBE := Lib.hid (HB.out.trans (hbel.mono HB.out.size))
  have HRO := Lib.hid (fun w' (hb : Below w1.heap.size w1 w') => hro.below hb)
  have HRK := Lib.hid (fun w' (hb : Below w1.heap.size w1 w') => hrk.below hb)
  have HRD := Lib.hid (fun w' (hb : Below w1.heap.size w1 w') => hrd.below hb)
  clear hbel ho hout hwld hkin hro hrk hrd HB HP
  go_wp2_with fail
  have hX := Blk.new w1 TWD [.slice v'.A0 2 v'.c0, .slice v'.A1 2 v'.c1, .slice v'.A2 2 v'.c2, .slice v'.A3 1 v'.c3, .slice v'.A4 1 v'.c4]
  have hBX := (Below.refl w1.heap.size w1).alloc (Nat.le_refl _) (.cells #[.slice v'.A0 2 v'.c0, .slice v'.A1 2 v'.c1, .slice v'.A2 2 v'.c2, .slice v'.A3 1 v'.c3, .slice v'.A4 1 v'.c4] TWD)
  refine (same_lit (w1.alloc (.cells #[.slice v'.A0 2 v'.c0, .slice v'.A1 2 v'.c1, .slice v'.A2 2 v'.c2, .slice v'.A3 1 v'.c3, .slice v'.A4 1 v'.c4] TWD)) (w1.heap.size + 1) 6 _ [1, 1, 0, 1, 0, 0] _ _ (by simp) rfl rfl (by decide) (HRO.out _ hBX)).mono ?_
  rintro e w2 ⟨rfl, hbl⟩
  have HX := Lib.hid ((Fr.of_below0 (S := fun _ => False) hbl).blk hX id)
  have HB := Lib.hid (hBX.trans (hbl.mono (by simp)))
  clear hX hBX hbl
  go_wp2_with fail
  refine (same_lit w2 _ 6 _ [1, 5, 1, 5, 1, 2] _ _ rfl rfl rfl (by decide) (HRK.out _ HB.out)).mono ?_
  rintro e w3 ⟨rfl, hbl⟩
  have HX1 := Lib.hid ((Fr.of_below0 (S := fun _ => False) hbl).blk HX.out id)
  have HB1 := Lib.hid (HB.out.trans (hbl.mono HB.out.size))
  clear HX HB hbl
  have hc0 := HX1.out.cell 0
  simp only [List.getElem?_cons_zero] at hc0
  obtain ⟨ad, hA, A0, c0, hr0, _, hrow⟩ := row_at (HRD.out _ HB1.out).h0 (j := 0) (by decide)
  have HROW := Lib.hid (row1_of_C hrow)
  obtain ⟨A0', c0', A1', c1', A2', c2', A3', c3', A4', c4'⟩ := v'
  simp only at hA
  subst hA
  have hr1 : w3.cell? ad = some (.slice A0 1 c0) := by simpa [Addr.add] using hr0
  clear hr0 hrow
  go_wp2_with fail
  refine (same_lit w3 _ 1 _ [-1] _ _ rfl rfl rfl (by decide) HROW.out).mono ?_
  rintro e w4 ⟨rfl, hbl⟩
  have HX2 := Lib.hid ((Fr.of_below0 (S := fun _ => False) hbl).blk HX1.out id)
  have HB2 := Lib.hid (HB1.out.trans (hbl.mono HB1.out.size))
  clear HX1 HB1 hbl hc0 HROW hr1
  have hc1 := HX2.out.cell 1
  simp only [List.getElem?_cons_zero, List.getElem?_cons_succ] at hc1
  go_wp2_with fail
  refine (same_lit w4 _ 2 _ [0, 0] _ _ rfl rfl rfl (by decide) (row1_of_C (HRD.out _ HB2.out).h1)).mono ?_
  rintro e w5 ⟨rfl, hbl⟩
  have HX3 := Lib.hid ((Fr.of_below0 (S := fun _ => False) hbl).blk HX2.out id)
  have HB3 := Lib.hid (HB2.out.trans (hbl.mono HB2.out.size))
  clear HX2 HB2 hbl hc1
  have hc3 := HX3.out.cell 3
  simp only [List.getElem?_cons_zero, List.getElem?_cons_succ] at hc3
  go_wp2_with fail
  refine (same_lit w5 _ 1 _ [1] _ _ rfl rfl rfl (by decide) (row1_of_C (HRD.out _ HB3.out).h3)).mono ?_
  rintro e w6 ⟨rfl, hbl⟩
  have HF := Lib.hid (HBE.out.trans ((HB3.out.trans (hbl.mono HB3.out.size)).mono HBE.out.size))
  clear HX3 HB3 hbl hc3
  go_wp2
  exact HQ'.out _ _ ⟨rfl, HF.out⟩
end Go.Proofs.Ytphhdmopfmelbaa
