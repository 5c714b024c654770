/-
  RecordMemory: two Plays of one case share no memory with each other nor with what was handed in; all lists handed in are kept.
  No condition: it holds for every input.
-/
import Derived.Test.YtphhdmopfmelbaaM7
import Derived.Test.YtphhdmopfmelbaaM9
import Derived.Test.YtphhdmopfmelbaaRows
import Derived.WalkKit
import Derived.ProofKit
import Derived.OpenShut
import Derived.ShutString
import Derived.ChangeOld
import Derived.Below
import Derived.SizedLaws
import Derived.Deep.Slices
import Derived.Deep.Grids

/- The argument of the statements of layer 12, as it is read; the row. -/
namespace Go.Proofs.Ytphhdmopfmelbaa
open Go.ChangeShapes Go.WideShapes Go.ChangeAt Go.RowKit Go.Proofs.YtphhdmopfmelbaaW.PrintWords
set_option linter.unusedVariables false
set_option linter.unusedSimpArgs false

theorem cells_int : Try.prog.cellsOf 3 = 1 := by kernel_rfl
theorem cells_bool : Try.prog.cellsOf 4 = 1 := by kernel_rfl
theorem cells_row : Try.prog.cellsOf 23 = 1 := by kernel_rfl
theorem cells_ract : Try.prog.cellsOf 67 = 5 := by kernel_rfl
theorem cells_case : Try.prog.cellsOf TCA = 8 := by kernel_rfl
theorem bytes_int : Try.prog.bytesOf 3 = 8 := by kernel_rfl
theorem bytes_bool : Try.prog.bytesOf 4 = 1 := by kernel_rfl
theorem bytes_row : Try.prog.bytesOf 23 = 24 := by kernel_rfl
theorem bytes_ract : Try.prog.bytesOf 67 = 40 := by kernel_rfl

section
variable {H : Type} {enc : TypeId × Value → H} {W : World} {held : Bool}
abbrev Small (t : TypeId) (d : DataW H) : Prop := ∀ m ∈ d.weights Try.prog t, m ≤ 140737488351232
theorem open_ints_C {fuel : Nat} {c : Value} {x : DataW H × List MemPlace} (h : DataW.trod enc Try.prog W 0 (fun _ => true) held fuel 23 [c] = some x) (hs : Small 23 x.1) :
    ∃ A k xs, c = .slice A (List.length xs) k ∧ xs.length ≤ k ∧ KInt.C W A xs.length xs ∧ xs.length * 8 ≤ 140737488351232 := by
  rcases open_ints Try.underlying23 Try.underlying3 cells_int h with ⟨hcs, _⟩ | ⟨a, len, cap, zs, hcs, _, hl, hm, hz, hx, hcell, _⟩
  · exact ⟨none, 0, [], by simpa using hcs, by simp, Kd.C_nil _ _, by simp⟩
  · simp only [if_true] at hz
    subst hx
    have hw := hs ((( lits (H := H) .i64 (zs.take len)).length + (lits (H := H) .i64 (zs.drop len)).length) * Try.prog.bytesOf 3) (by
      simp only [DataW.weights, Try.underlying23]
      exact List.mem_cons_self)
    rw [bytes_int] at hw
    have hll : (lits (H := H) .i64 (zs.take len)).length + (lits (H := H) .i64 (zs.drop len)).length = zs.length := by simp [lits]; omega
    rw [hll, hz] at hw
    have hlt : (zs.take len).length = len := by simp; omega
    refine ⟨some a, cap, zs.take len, by rw [hlt]; simpa using hcs, by omega, ⟨rfl, by simp only [maxLen] at hm; omega, fun _ => ⟨a, rfl, fun j p hp => ⟨[.int .i64 p], rfl, rfl, fun i u hu => ?_⟩⟩⟩, by omega⟩
    cases i with
    | zero =>
      simp only [List.getElem?_cons_zero, Option.some.injEq] at hu
      subst hu
      have hj := (List.getElem?_eq_some_iff.1 hp).1
      have hc := hcell j (by omega)
      have he : j * KInt.sz + 0 = j := by show j * 1 + 0 = j; omega
      rw [he, hc]
      rw [List.getElem?_take] at hp
      split at hp
      · simp [List.getD_eq_getElem?_getD, hp]
      · cases hp
    | succ i => simp at hu
theorem open_bools_C {fuel : Nat} {c : Value} {x : DataW H × List MemPlace} (h : DataW.trod enc Try.prog W 0 (fun _ => true) held fuel 24 [c] = some x) (hs : Small 24 x.1) :
    ∃ A k xs, c = .slice A (List.length xs) k ∧ xs.length ≤ k ∧ Kd.bool.C W A xs.length xs ∧ xs.length ≤ 140737488351232 := by
  rcases Go.Deep.open_slice1 Try.underlying24 cells_bool h with ⟨hcs, _⟩ | ⟨a, len, cap, m, n, V, D, Pl, hcs, _, hl, hm, hmm, hx, hV⟩
  · exact ⟨none, 0, [], by simpa using hcs, by simp, Kd.C_nil _ _, by simp⟩
  · simp only [if_true] at hmm
    subst hx
    have hw := hs ((((List.range len).map D).length + ((List.range (m - len)).map fun j => D (len + j)).length) * Try.prog.bytesOf 4) (by
      simp only [DataW.weights, Try.underlying24]
      exact List.mem_cons_self)
    rw [bytes_bool] at hw
    simp only [List.length_map, List.length_range] at hw
    obtain ⟨B, hB⟩ := Go.Deep.choose_lt (n := m) (p := fun i (b : Bool) => V i = .bool b) (fun i hi => by
      obtain ⟨b, hb, _⟩ := DataW.trod_bool Try.underlying4 (hV i hi).2
      exact ⟨b, by simpa using hb⟩)
    refine ⟨some a, cap, (List.range len).map B, by simpa using hcs, by simpa using hl, ⟨rfl, by simp only [maxLen] at hm; simp; omega, fun _ => ⟨a, rfl, fun j p hp => ⟨[.bool p], rfl, rfl, fun i u hu => ?_⟩⟩⟩, by simp; omega⟩
    cases i with
    | zero =>
      simp only [List.getElem?_cons_zero, Option.some.injEq] at hu
      subst hu
      have hj := (List.getElem?_eq_some_iff.1 hp).1
      simp only [List.length_map, List.length_range] at hj
      have he : j * Kd.bool.sz + 0 = j := by show j * 1 + 0 = j; omega
      rw [he, (hV j (by omega)).1, hB j (by omega)]
      simp [hj] at hp
      rw [hp]
    | succ i => simp at hu
theorem weights_all {P : Program} {e : TypeId} {d : DataW H} : ∀ {l : List (DataW H)}, d ∈ l → ∀ m ∈ d.weights P e, m ∈ DataW.weightsAll P e l
  | x :: l, h, m, hm => by
    simp only [DataW.weightsAll, List.mem_append]
    rcases List.mem_cons.1 h with rfl | h
    · exact .inl hm
    · exact .inr (weights_all h m hm)
theorem open_rows_C {fuel : Nat} {c : Value} {x : DataW H × List MemPlace} (h : DataW.trod enc Try.prog W 0 (fun _ => true) held fuel 22 [c] = some x) (hs : Small 22 x.1) :
    ∃ A k rows, c = .slice A (List.length rows) k ∧ rows.length ≤ k ∧ KRow.C W A rows.length rows ∧ rows.length ≤ 1000000000000000 ∧ ∀ r ∈ rows, r.length ≤ 1000000000000000 := by
  rcases Go.Deep.open_slice1 Try.underlying22 cells_row h with ⟨hcs, _⟩ | ⟨a, len, cap, m, n, V, D, Pl, hcs, _, hl, hm, hmm, hx, hV⟩
  · exact ⟨none, 0, [], by simpa using hcs, by simp, Kd.C_nil _ _, by simp, by simp⟩
  · simp only [if_true] at hmm
    subst hx
    have hw := hs ((((List.range len).map D).length + ((List.range (m - len)).map fun j => D (len + j)).length) * Try.prog.bytesOf 23) (by
      simp only [DataW.weights, Try.underlying22]
      exact List.mem_cons_self)
    rw [bytes_row] at hw
    simp only [List.length_map, List.length_range] at hw
    obtain ⟨F, hF⟩ := Go.Deep.choose_lt (n := len) (p := fun i (y : Option Addr × Nat × List Int) => V i = .slice y.1 y.2.2.length y.2.1 ∧ y.2.2.length ≤ y.2.1 ∧ KInt.C W y.1 y.2.2.length y.2.2 ∧ y.2.2.length ≤ 1000000000000000) (fun i hi => by
      obtain ⟨A, k, xs, h1, h2, h3, h4⟩ := open_ints_C (hV i (by omega)).2 (fun q hq => hs q (by
        simp only [DataW.weights, Try.underlying22]
        refine List.mem_cons_of_mem _ (List.mem_append_left _ (weights_all (d := D i) ?_ q hq))
        exact List.mem_map.2 ⟨i, List.mem_range.2 hi, rfl⟩))
      exact ⟨(A, k, xs), h1, h2, h3, by show xs.length ≤ _; omega⟩)
    refine ⟨some a, cap, (List.range len).map fun i => (F i).2.2, by simpa using hcs, by simpa using hl, ⟨rfl, by simp only [maxLen] at hm; simp; omega, fun _ => ⟨a, rfl, fun j p hp => ?_⟩⟩, by simp; omega, fun r hr => ?_⟩
    · have hj := (List.getElem?_eq_some_iff.1 hp).1
      simp only [List.length_map, List.length_range] at hj
      obtain ⟨f1, f2, f3, f4⟩ := hF j hj
      have hpe : (F j).2.2 = p := by simpa [hj] using hp
      subst hpe
      refine ⟨[V j], rfl, ⟨(F j).1, (F j).2.1, by rw [f1], f2, f3⟩, fun i u hu => ?_⟩
      cases i with
      | zero =>
        simp only [List.getElem?_cons_zero, Option.some.injEq] at hu
        subst hu
        have he : j * KRow.sz + 0 = j := by show j * 1 + 0 = j; omega
        rw [he]
        exact (hV j (by omega)).1
      | succ i => simp at hu
    · obtain ⟨i, hi, rfl⟩ := List.mem_map.1 hr
      exact (hF i (List.mem_range.1 hi)).2.2.2
instance : Inhabited ActD := ⟨⟨0, 0, 0, 0, 0⟩⟩
set_option maxRecDepth 100000 in
theorem open_acts_C {fuel : Nat} {c : Value} {x : DataW H × List MemPlace} (h : DataW.trod enc Try.prog W 0 (fun _ => true) held fuel 44 [c] = some x) (hs : Small 44 x.1) :
    ∃ A k l, c = .slice A (List.length l) k ∧ l.length ≤ k ∧ ActsAt W A l ∧ l.length ≤ 1000000000000000 := by
  rcases Go.Deep.open_slice Try.underlying44 h with ⟨hcs, _⟩ | ⟨a, len, cap, m, n, D, Pl, hcs, _, hl, hm, hmm, hx, hV⟩
  · exact ⟨none, 0, [], by simpa using hcs, by simp, fun hl => by simp at hl, by simp⟩
  · simp only [if_true] at hmm
    subst hx
    have hw := hs ((((List.range len).map D).length + ((List.range (m - len)).map fun j => D (len + j)).length) * Try.prog.bytesOf 67) (by
      simp only [DataW.weights, Try.underlying44]
      exact List.mem_cons_self)
    rw [bytes_ract] at hw
    simp only [List.length_map, List.length_range] at hw
    obtain ⟨F, hF⟩ := Go.Deep.choose_lt (α := ActD) (n := len) (p := fun i (y : ActD) => ∀ (q : Nat) u, y.cells[q]? = some u → W.cell? (a.add (i * 5 + q)) = some u) (fun i hi => by
      obtain ⟨cs', h1, h2⟩ := hV i (by omega)
      rw [cells_ract] at h1
      obtain ⟨_, hlen, hcell⟩ := World.cells?_some h1
      obtain ⟨xs, n', _, _, _, hxl, hf⟩ := DataW.trod_struct Try.underlying67 h2
      match cs', hlen with
      | [v0, v1, v2, v3, v4], _ =>
        have g0 : DataW.trod enc Try.prog W 0 (fun _ => true) held n' 3 [v0] = xs[0]? := by simpa [cells_int] using hf 0 _ rfl
        have g1 : DataW.trod enc Try.prog W 0 (fun _ => true) held n' 3 [v1] = xs[1]? := by simpa [cells_int] using hf 1 _ rfl
        have g2 : DataW.trod enc Try.prog W 0 (fun _ => true) held n' 3 [v2] = xs[2]? := by simpa [cells_int] using hf 2 _ rfl
        have g3 : DataW.trod enc Try.prog W 0 (fun _ => true) held n' 3 [v3] = xs[3]? := by simpa [cells_int] using hf 3 _ rfl
        have g4 : DataW.trod enc Try.prog W 0 (fun _ => true) held n' 3 [v4] = xs[4]? := by simpa [cells_int] using hf 4 _ rfl
        have key : ∀ {v : Value} {y : Option (DataW H × List MemPlace)}, DataW.trod enc Try.prog W 0 (fun _ => true) held n' 3 [v] = y → y.isSome → ∃ z, v = .int .i64 z := fun {v y} hy hs => by
          obtain ⟨y, rfl⟩ := Option.isSome_iff_exists.1 hs
          obtain ⟨z, hz, _⟩ := DataW.trod_int Try.underlying3 hy
          exact ⟨z, by simpa using hz⟩
        have hx5 : xs.length = 5 := hxl
        have hsm : ∀ q, q < 5 → (xs[q]?).isSome := fun q hq => by rw [List.getElem?_eq_getElem (by omega)]; rfl
        obtain ⟨z0, rfl⟩ := key g0 (hsm 0 (by omega))
        obtain ⟨z1, rfl⟩ := key g1 (hsm 1 (by omega))
        obtain ⟨z2, rfl⟩ := key g2 (hsm 2 (by omega))
        obtain ⟨z3, rfl⟩ := key g3 (hsm 3 (by omega))
        obtain ⟨z4, rfl⟩ := key g4 (hsm 4 (by omega))
        refine ⟨⟨z0, z1, z2, z3, z4⟩, fun q u hu => ?_⟩
        have hq : q < 5 := (List.getElem?_eq_some_iff.1 hu).1
        have := hcell q hq
        rw [Go.Deep.add_add] at this
        rw [this]
        exact hu)
    refine ⟨some a, cap, (List.range len).map F, by simpa using hcs, by simpa using hl, fun hl0 => ?_, by simp; omega⟩
    have hlen : 0 < len := by simpa using hl0
    obtain ⟨b, o, spot⟩ := a
    have h00 := hF 0 hlen 0 _ rfl
    have hspot : spot = none := by simpa [Addr.add] using World.cell?_spot h00
    subst hspot
    refine ⟨b, o, rfl, fun j x hx i u hu => ?_⟩
    have hj := (List.getElem?_eq_some_iff.1 hx).1
    simp only [List.length_map, List.length_range] at hj
    have hxe : F j = x := by simpa [hj] using hx
    subst hxe
    have := hF j hj i u hu
    rw [Addr.add_lit] at this
    rwa [show o + j * 5 + i = o + (j * 5 + i) by omega]
theorem cells_world : Try.prog.cellsOf TRW = 5 := by kernel_rfl
theorem cells_rows : Try.prog.cellsOf 22 = 1 := by kernel_rfl
theorem cells_bools : Try.prog.cellsOf 24 = 1 := by kernel_rfl
theorem cells_acts : Try.prog.cellsOf 44 = 1 := by kernel_rfl
theorem small_part {t : TypeId} {fs : Array Field} {xs : List (DataW H × List MemPlace)} (ht : Try.prog.underlying t = some (.struct fs)) (hs : Small t (DataW.agg (xs.map (·.1)))) {i : Nat} {f : Field} {y : DataW H × List MemPlace} (hf : fs[i]? = some f) (hy : xs[i]? = some y) : Small f.type y.1 := fun m hm => hs m (by
  simp only [DataW.weights, ht]
  exact DataW.weights_mem_each (j := i) (t := f.type) (d := y.1) (by simp [hf]) (by simp [hy]) m hm)
set_option maxRecDepth 100000 in
theorem open_world_C {fuel : Nat} {cs : List Value} {x : DataW H × List MemPlace} (h : DataW.trod enc Try.prog W 0 (fun _ => true) held fuel TRW cs = some x) (hs : Small TRW x.1) :
    ∃ (v : WV) (d : WD), cs = v.cells d ∧ v.Reads W d ∧ (d.fields.length ≤ 1000000000000000 ∧ d.infos.length * 8 ≤ 140737488351232 ∧ d.marks.length ≤ 140737488351232 ∧ d.states.length ≤ 1000000000000000 ∧ d.frozen.length ≤ 1000000000000000) ∧ ∀ r ∈ d.fields, r.length ≤ 1000000000000000 := by
  obtain ⟨xs, n', _, rfl, hlen, hxl, hf⟩ := DataW.trod_struct Try.underlying43 h
  rw [cells_world] at hlen
  have hx5 : xs.length = 5 := hxl
  match cs, hlen, xs, hx5 with
  | [c0, c1, c2, c3, c4], _, [y0, y1, y2, y3, y4], _ =>
    have g0 : DataW.trod enc Try.prog W 0 (fun _ => true) held n' 22 [c0] = some y0 := by simpa [cells_rows] using hf 0 _ rfl
    have g1 : DataW.trod enc Try.prog W 0 (fun _ => true) held n' 23 [c1] = some y1 := by simpa [cells_row] using hf 1 _ rfl
    have g2 : DataW.trod enc Try.prog W 0 (fun _ => true) held n' 24 [c2] = some y2 := by simpa [cells_bools] using hf 2 _ rfl
    have g3 : DataW.trod enc Try.prog W 0 (fun _ => true) held n' 23 [c3] = some y3 := by simpa [cells_row] using hf 3 _ rfl
    have g4 : DataW.trod enc Try.prog W 0 (fun _ => true) held n' 24 [c4] = some y4 := by simpa [cells_bools] using hf 4 _ rfl
    have s0 := small_part Try.underlying43 hs (i := 0) rfl rfl
    have s1 := small_part Try.underlying43 hs (i := 1) rfl rfl
    have s2 := small_part Try.underlying43 hs (i := 2) rfl rfl
    have s3 := small_part Try.underlying43 hs (i := 3) rfl rfl
    have s4 := small_part Try.underlying43 hs (i := 4) rfl rfl
    obtain ⟨A0, k0, x0, rfl, l0, r0, b0, b0'⟩ := open_rows_C g0 s0
    obtain ⟨A1, k1, x1, rfl, l1, r1, b1⟩ := open_ints_C g1 s1
    obtain ⟨A2, k2, x2, rfl, l2, r2, b2⟩ := open_bools_C g2 s2
    obtain ⟨A3, k3, x3, rfl, l3, r3, b3⟩ := open_ints_C g3 s3
    obtain ⟨A4, k4, x4, rfl, l4, r4, b4⟩ := open_bools_C g4 s4
    exact ⟨⟨A0, k0, A1, k1, A2, k2, A3, k3, A4, k4⟩, ⟨x0, x1, x2, x3, x4⟩, rfl, ⟨r0, l0, r1, l1, r2, l2, r3, l3, r4, l4⟩, ⟨b0, b1, b2, by show x3.length ≤ _; omega, by show x4.length ≤ _; omega⟩, b0'⟩
set_option maxRecDepth 100000 in
theorem open_case {r : Reach} {b0 : Nat} {v : Value} {d : DataW H} {p : List MemPlace} (hv : Value.okWide Try.prog W r b0 TCA v) (h : DataW.Trod enc Try.prog W 0 (fun _ => true) held TCA v d p) (hs : Small TCA d) :
    ∃ (vv : WV) (dd : WD) (A : Option Addr) (c : Nat) (l : List ActD) (N M : Int), v = caseV vv dd A c l N M ∧ vv.Reads W dd ∧ ActsAt W A l ∧ l.length ≤ c ∧ (-9223372036854775808 ≤ N ∧ N ≤ 9223372036854775807) ∧ CaseLen dd l ∧ ∀ r ∈ dd.fields, r.length ≤ 1000000000000000 := by
  obtain ⟨cs, rfl, hsz⟩ := okWide_struct Try.underlying46 hv
  rw [cells_case] at hsz
  obtain ⟨fuel, hf0⟩ := h
  obtain ⟨xs, n', _, hx, hlen, hxl, hf⟩ := DataW.trod_struct Try.underlying46 hf0
  simp only [Prod.mk.injEq] at hx
  obtain ⟨hx1, hx2⟩ := hx
  subst hx1
  obtain ⟨cs⟩ := cs
  have hx4 : xs.length = 4 := hxl
  have hc8 : cs.length = 8 := by simpa using hsz
  match cs, hc8, xs, hx4 with
  | [c0, c1, c2, c3, c4, c5, c6, c7], _, [y0, y1, y2, y3], _ =>
    have g0 : DataW.trod enc Try.prog W 0 (fun _ => true) held n' TRW [c0, c1, c2, c3, c4] = some y0 := by simpa [cells_world, Value.cells] using hf 0 _ rfl
    have g1 : DataW.trod enc Try.prog W 0 (fun _ => true) held n' 44 [c5] = some y1 := by simpa [cells_acts, Value.cells] using hf 1 _ rfl
    have g2 : DataW.trod enc Try.prog W 0 (fun _ => true) held n' 3 [c6] = some y2 := by simpa [cells_int, Value.cells] using hf 2 _ rfl
    have g3 : DataW.trod enc Try.prog W 0 (fun _ => true) held n' 3 [c7] = some y3 := by simpa [cells_int, Value.cells] using hf 3 _ rfl
    have s0 := small_part Try.underlying46 hs (i := 0) rfl rfl
    have s1 := small_part Try.underlying46 hs (i := 1) rfl rfl
    obtain ⟨vv, dd, e0, r0, b0, b0'⟩ := open_world_C g0 s0
    obtain ⟨A, c, l, rfl, hlc, ha, hl⟩ := open_acts_C g1 s1
    obtain ⟨N, e6, _, hN⟩ := DataW.trod_int Try.underlying3 g2
    obtain ⟨M, e7, _, _⟩ := DataW.trod_int Try.underlying3 g3
    simp only [WV.cells, List.cons.injEq, and_true] at e0 e6 e7
    obtain ⟨rfl, rfl, rfl, rfl, rfl⟩ := e0
    subst e6 e7
    have hN' : -9223372036854775808 ≤ N ∧ N ≤ 9223372036854775807 := by simpa [Lit.wf, IntKind.min, IntKind.max, IntKind.signed, IntKind.bits] using hN
    exact ⟨vv, dd, A, c, l, N, M, rfl, r0, ha, hlc, hN', ⟨b0.1, b0.2.1, b0.2.2.1, b0.2.2.2.1, b0.2.2.2.2, hl⟩, b0'⟩
end
end Go.Proofs.Ytphhdmopfmelbaa

namespace Go.Proofs.Ytphhdmopfmelbaa.recordMemory
open Go.ChangeShapes Go.WideShapes Go.ChangeAt Go.RowKit
open Go.ChangeMaps (open_string shut_string)
set_option linter.unusedVariables false
theorem own : ownKnob Try.prog.godebug = none := by kernel_rfl
theorem laidOut : laidOutB Try.prog = true := by kernel_rfl
set_option maxRecDepth 100000 in
theorem lifted (os : Os) (started : os.Started) (H : Type) (enc : TypeId × Value → H) :
    ReturnsInHanded {} Try.checked os 7 .any (Rows.recordMemorySpec.pre6 enc Try.prog Try.f7 Rows.recordMemoryRow.domain false) (Rows.recordMemorySpec.post enc Try.prog Try.f7 false true false false) := by
  refine returnsInHanded_of_change_sized (C := Try.checked) own started (by kernel_rfl) Try.func7
    (ChangeSpec.witness6 (enc := enc) (C := Try.checked) false ⟨#[], #[.agg #[.slice none 0 0, .slice none 0 0, .slice none 0 0, .slice none 0 0, .slice none 0 0, .slice none 0 0, .int .i64 0, .int .i64 0]], []⟩ 8 (by kernel_rfl) (by kernel_rfl) (by kernel_rfl) (by kernel_rfl)) ?_
  intro W base args ds gs before hval0 hW hcnd hsz0 _
  have hsz : (DataW.weightsEach Try.prog (Try.f7.params.toList ++ Rows.recordMemorySpec.plain.varTypes Try.prog) (ds ++ gs)).all (· ≤ reachBytes) = true := hsz0
  have hval : ∀ (j : Nat) t v, Try.f7.params[j]? = some t → args[j]? = some v → Value.okWide Try.prog W .any base t v := hval0
  have hW' := hW
  obtain ⟨p, q, hA0, hV, rfl, hfz, hnd⟩ := hW
  have hA : DataW.TrodAll enc Try.prog W 0 (fun _ => true) true Try.f7.params.toList args.toList ds p := hA0
  rw [Try.params7] at hA hval hsz
  obtain ⟨v0, vs0, d0, ds0, p0, q0, hargs, rfl, rfl, h0, r0⟩ := trodAll_cons hA
  obtain ⟨rfl, rfl, rfl⟩ := trodAll_nil r0
  obtain rfl : args = #[v0] := by cases args; simp_all
  obtain ⟨rfl, rfl⟩ := trodVars_none hV
  have k0 := h0
  have lt0 : ∀ x ∈ p0, x.block < W.heap.size := by obtain ⟨m, hm⟩ := k0; exact DataW.trod_lt m _ _ _ hm
  have hsm : Small TCA d0 := fun m hm => by
    have h1 := List.all_eq_true.1 hsz m (DataW.weights_mem_each (j := 0) (t := TCA) (d := d0) rfl rfl m hm)
    have h2 : m ≤ reachBytes := of_decide_eq_true h1
    exact h2
  obtain ⟨v, dd, A, c, l, N, M, rfl, hrd, hac, hlc, hN, hcl, hrl⟩ := open_case (hval 0 TCA v0 rfl rfl) h0 hsm
  clear hA0 hval0 hsz0 hsz hsm
  refine (law_memory W v dd hrd A c l hac hlc N M hN hcl hrl).mono fun e W' ⟨he, bel⟩ => ?_
  subst he
  exact ⟨_, rfl, _, _, _, [], _, [], hW', trodAll_mk1 (shut_bool Try.underlying4 _), (trodAll_cons_mk (Below.trod laidOut (by kernel_rfl) (of_decide_eq_true (by kernel_rfl)) k0 bel lt0) trodAll_mk0), rfl, bel.frame _, fun h => by cases h⟩
theorem over : Rows.recordMemoryRow.holds Try.pinned (OpenSpec.ofChange Rows.recordMemorySpec) :=
  OpenClaim.holds_of_wide 7 Try.f7 rfl rfl rfl rfl rfl rfl rfl ⟨rfl, rfl, rfl, rfl, rfl⟩ rfl rfl rfl rfl rfl (by kernel_rfl) Try.func7 (by kernel_rfl)
    (of_decide_eq_true (by kernel_rfl)) (by unfold Func.isWrapper; first | (rw [if_pos (by decide +kernel)]; kernel_rfl) | (rw [if_neg (by decide +kernel)]; exact ⟨rfl, rfl⟩))
    (fun os started H enc _ => lifted os started H enc)
theorem proved : Rows.RecordMemorySaid := over
end Go.Proofs.Ytphhdmopfmelbaa.recordMemory
namespace Go.Proofs.Ytphhdmopfmelbaa
theorem recordMemory_holds : Rows.RecordMemorySaid := recordMemory.proved
#print axioms recordMemory_holds
end Go.Proofs.Ytphhdmopfmelbaa
