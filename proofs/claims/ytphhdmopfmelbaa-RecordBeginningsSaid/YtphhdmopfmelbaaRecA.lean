/- record: the live world: record, info. -/
import Derived.Test.YtphhdmopfmelbaaWorld
import Derived.StillTailTactics
namespace Go.Proofs.Ytphhdmopfmelbaa
open Go.RowKit Go.Proofs.YtphhdmopfmelbaaW.PrintWords
set_option linter.unusedVariables false
set_option linter.unusedSimpArgs false

abbrev TLV : Nat := 162
/-- The info of a number: below 0 the record's own first one. -/
def ip (fs xs : List Nat) (i n : Int) : Option Nat := if n < 0 then fs[i.toNat]? else xs[n.toNat]?

set_option maxHeartbeats 400000 in
theorem live_record (w : World) (B m : Nat) (rs fs xs : List Nat) (v1 v2 v3 : Value) (h : MadeAt TLV w B m rs fs xs v1 v2 v3) (n : Int) (n0 : -1 ≤ n) (n1 : n < rs.length) :
    Calls Try.prog 89 #[.pointer (some ⟨m, 0, none⟩), .int .i64 n] w fun e w' => e = .returned (pv (rp rs n)) ∧ w = w' := by
  by_cases hn : n < 0
  · rw [show rp rs n = none by simp [rp, hn]]
    clear h
    go_enter Try.func89, Try.ntmps89
    go_wp2
    go_ret
    exact ⟨rfl, rfl⟩
  · rw [show rp rs n = rs[n.toNat]? by simp [rp, hn]]
    obtain ⟨b, c, hv, hc⟩ := owns_at h.o1 (j := n.toNat) (by omega)
    have hm : w.cell? ⟨m, 0, none⟩ = some v1 := by rw [h.blk.cell]; rfl
    rw [hv] at hm
    generalize rs[n.toNat]? = p at *
    clear h hv
    go_enter Try.func89, Try.ntmps89
    go_wp2
    go_ret
    exact ⟨rfl, rfl⟩
set_option maxHeartbeats 400000 in
theorem live_info (w : World) (B m : Nat) (rs fs xs : List Nat) (v1 v2 v3 : Value) (h : MadeAt TLV w B m rs fs xs v1 v2 v3) (i n : Int) (i0 : 0 ≤ i) (i1 : i < fs.length) (n0 : -1 ≤ n) (n1 : n < xs.length) :
    Calls Try.prog 91 #[.pointer (some ⟨m, 0, none⟩), .int .i64 i, .int .i64 n] w fun e w' => e = .returned (pv (ip fs xs i n)) ∧ w = w' := by
  by_cases hn : n < 0
  · rw [show ip fs xs i n = fs[i.toNat]? by simp [ip, hn]]
    obtain ⟨b, c, hv, hc⟩ := owns_at h.o2 (j := i.toNat) (by omega)
    have hm : w.cell? ⟨m, 1, none⟩ = some v2 := by rw [h.blk.cell]; rfl
    rw [hv] at hm
    generalize fs[i.toNat]? = p at *
    clear h hv
    go_enter Try.func91, Try.ntmps91
    go_wp2
    go_ret
    exact ⟨rfl, rfl⟩
  · rw [show ip fs xs i n = xs[n.toNat]? by simp [ip, hn]]
    obtain ⟨b, c, hv, hc⟩ := owns_at h.o3 (j := n.toNat) (by omega)
    have hm : w.cell? ⟨m, 2, none⟩ = some v3 := by rw [h.blk.cell]; rfl
    rw [hv] at hm
    generalize xs[n.toNat]? = p at *
    clear h hv
    go_enter Try.func91, Try.ntmps91
    go_wp2
    go_ret
    exact ⟨rfl, rfl⟩
end Go.Proofs.Ytphhdmopfmelbaa
