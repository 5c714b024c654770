/- The arguments of LarchIdentity, as they are read. -/
import Derived.Test.YtoeaoeekjabaaaaRows
import Derived.Test.YtoeaoeekjabaaaaIdE
import Derived.WalkKit
import Derived.ProofKit
import Derived.OpenShut
import Derived.ShutString
import Derived.ChangeOld
import Derived.Below
import Derived.SizedLaws
import Derived.Deep.Slices
import Derived.Deep.Grids
namespace Go.Proofs.Ytoeaoeekjabaaaa
open Go.ChangeShapes Go.WideShapes Go.ChangeAt Go.RowKit Go.Proofs.YtoeaoeekjabaaaaW.PrintWords
set_option linter.unusedVariables false
set_option linter.unusedSimpArgs false

theorem cells_int : Try.prog.cellsOf 3 = 1 := by kernel_rfl
theorem cells_ca : Try.prog.cellsOf 28 = 4 := by kernel_rfl
theorem bytes_int : Try.prog.bytesOf 3 = 8 := by kernel_rfl
theorem bytes_ca : Try.prog.bytesOf 28 = 32 := by kernel_rfl
section
variable {H : Type} {enc : TypeId × Value → H} {W : World} {held : Bool}
abbrev Small (t : TypeId) (d : DataW H) : Prop := ∀ m ∈ d.weights Try.prog t, m ≤ 140737488351232
theorem open_row1 {fuel : Nat} {c : Value} {x : DataW H × List MemPlace} (h : DataW.trod enc Try.prog W 0 (fun _ => true) held fuel 22 [c] = some x) (hs : Small 22 x.1) :
    ∃ A k xs, c = .slice A (List.length xs) k ∧ Row1 W A xs.length (xs.map (Value.int .i64)) ∧ xs.length * 8 ≤ 140737488351232 := by
  rcases open_ints Try.underlying22 Try.underlying3 cells_int h with ⟨hcs, _⟩ | ⟨a, len, cap, zs, hcs, _, hl, hm, hz, hx, hcell, _⟩
  · exact ⟨none, 0, [], by simpa using hcs, Row1.nil _, by simp⟩
  · simp only [if_true] at hz
    subst hx
    have hw := hs ((( lits (H := H) .i64 (zs.take len)).length + (lits (H := H) .i64 (zs.drop len)).length) * Try.prog.bytesOf 3) (by
      simp only [DataW.weights, Try.underlying22]
      exact List.mem_cons_self)
    rw [bytes_int] at hw
    have hll : (lits (H := H) .i64 (zs.take len)).length + (lits (H := H) .i64 (zs.drop len)).length = zs.length := by simp [lits]; omega
    rw [hll, hz] at hw
    have hlt : (zs.take len).length = len := by simp; omega
    refine ⟨some a, cap, zs.take len, by rw [hlt]; simpa using hcs, ⟨by simp, fun _ => ⟨a, rfl, fun j u hu => ?_⟩⟩, by omega⟩
    have hj := (List.getElem?_eq_some_iff.1 hu).1
    rw [List.length_map] at hj
    have hc := hcell j (by omega)
    rw [hc]
    rw [List.getElem?_map, List.getElem?_take] at hu
    rw [if_pos (by omega)] at hu
    rw [List.getElem?_eq_getElem (by omega)] at hu
    rw [← hu]
    simp [List.getD_eq_getElem?_getD, List.getElem?_eq_getElem (show j < zs.length by omega)]
instance : Inhabited CA := ⟨⟨0, 0, 0, 0⟩⟩
set_option maxRecDepth 100000 in
theorem open_cas_C {fuel : Nat} {c : Value} {x : DataW H × List MemPlace} (h : DataW.trod enc Try.prog W 0 (fun _ => true) held fuel 23 [c] = some x) (hs : Small 23 x.1) :
    ∃ A k l, c = .slice A (List.length l) k ∧ l.length ≤ k ∧ CAsAt W A l ∧ l.length ≤ 1000000000000000 := by
  rcases Go.Deep.open_slice Try.underlying23 h with ⟨hcs, _⟩ | ⟨a, len, cap, m, n, D, Pl, hcs, _, hl, hm, hmm, hx, hV⟩
  · exact ⟨none, 0, [], by simpa using hcs, by simp, fun hl => by simp at hl, by simp⟩
  · simp only [if_true] at hmm
    subst hx
    have hw := hs ((((List.range len).map D).length + ((List.range (m - len)).map fun j => D (len + j)).length) * Try.prog.bytesOf 28) (by
      simp only [DataW.weights, Try.underlying23]
      exact List.mem_cons_self)
    rw [bytes_ca] at hw
    simp only [List.length_map, List.length_range] at hw
    obtain ⟨F, hF⟩ := Go.Deep.choose_lt (α := CA) (n := len) (p := fun i (y : CA) => ∀ (q : Nat) u, y.cells[q]? = some u → W.cell? (a.add (i * 4 + q)) = some u) (fun i hi => by
      obtain ⟨cs', h1, h2⟩ := hV i (by omega)
      rw [cells_ca] at h1
      obtain ⟨_, hlen, hcell⟩ := World.cells?_some h1
      obtain ⟨xs, n', _, _, _, hxl, hf⟩ := DataW.trod_struct Try.underlying28 h2
      match cs', hlen with
      | [v0, v1, v2, v3], _ =>
        have g0 : DataW.trod enc Try.prog W 0 (fun _ => true) held n' 3 [v0] = xs[0]? := by simpa [cells_int] using hf 0 _ rfl
        have g1 : DataW.trod enc Try.prog W 0 (fun _ => true) held n' 3 [v1] = xs[1]? := by simpa [cells_int] using hf 1 _ rfl
        have g2 : DataW.trod enc Try.prog W 0 (fun _ => true) held n' 3 [v2] = xs[2]? := by simpa [cells_int] using hf 2 _ rfl
        have g3 : DataW.trod enc Try.prog W 0 (fun _ => true) held n' 3 [v3] = xs[3]? := by simpa [cells_int] using hf 3 _ rfl
        have key : ∀ {v : Value} {y : Option (DataW H × List MemPlace)}, DataW.trod enc Try.prog W 0 (fun _ => true) held n' 3 [v] = y → y.isSome → ∃ z, v = .int .i64 z := fun {v y} hy hs => by
          obtain ⟨y, rfl⟩ := Option.isSome_iff_exists.1 hs
          obtain ⟨z, hz, _⟩ := DataW.trod_int Try.underlying3 hy
          exact ⟨z, by simpa using hz⟩
        have hx4 : xs.length = 4 := hxl
        have hsm : ∀ q, q < 4 → (xs[q]?).isSome := fun q hq => by rw [List.getElem?_eq_getElem (by omega)]; rfl
        obtain ⟨z0, rfl⟩ := key g0 (hsm 0 (by omega))
        obtain ⟨z1, rfl⟩ := key g1 (hsm 1 (by omega))
        obtain ⟨z2, rfl⟩ := key g2 (hsm 2 (by omega))
        obtain ⟨z3, rfl⟩ := key g3 (hsm 3 (by omega))
        refine ⟨⟨z0, z1, z2, z3⟩, fun q u hu => ?_⟩
        have hq : q < 4 := (List.getElem?_eq_some_iff.1 hu).1
        have := hcell q hq
        rw [Go.Deep.add_add] at this
        rw [this]
        exact hu)
    refine ⟨some a, cap, (List.range len).map F, by simpa using hcs, by simpa using hl, fun hl0 => ?_, by simp; omega⟩
    have hlen : 0 < len := by simpa using hl0
    obtain ⟨b, o, spot⟩ := a
    have h00 := hF 0 hlen 0 _ rfl
    have hspot : spot = none := by simpa [Addr.add] using World.cell?_spot h00
    subst hspot
    refine ⟨b, o, rfl, fun j x hx i u hu => ?_⟩
    have hj := (List.getElem?_eq_some_iff.1 hx).1
    simp only [List.length_map, List.length_range] at hj
    have hxe : F j = x := by simpa [hj] using hx
    subst hxe
    have := hF j hj i u hu
    rw [Addr.add_lit] at this
    rwa [show o + j * 4 + i = o + (j * 4 + i) by omega]
end
end Go.Proofs.Ytoeaoeekjabaaaa
