/- larchtop: copyInts, sameInts; append of a list to an empty literal. -/
import Derived.Test.YtoeaoeekjabaaaaIdE
import Derived.BigQuiet
import Derived.Deep.QuietTactic
import Derived.ArgAppend
namespace Go.Proofs.Ytoeaoeekjabaaaa
open Go.RowKit Go.Proofs.YtoeaoeekjabaaaaW.PrintWords
set_option linter.unusedVariables false
set_option linter.unusedSimpArgs false

theorem eq_of_take {α : Type} {xs ys : List α} (hl : xs.length = ys.length) (h : ∀ i, i < xs.length → xs[i]? = ys[i]?) : xs = ys := by
  apply List.ext_getElem? 
  intro i
  rcases Nat.lt_or_ge i xs.length with hi | hi
  · exact h i hi
  · rw [List.getElem?_eq_none hi, List.getElem?_eq_none (by omega)]

set_option maxHeartbeats 1000000 in
theorem top_sameInts (A : Option Addr) (c : Nat) (xs : List Int) (A' : Option Addr) (c' : Nat) (ys : List Int) (w : World) (hr : Row1 w A xs.length (xs.map (Value.int .i64))) (hr' : Row1 w A' ys.length (ys.map (Value.int .i64))) (hl : xs.length ≤ 1000000000000000) :
    Calls Try.prog 5 #[.slice A xs.length c, .slice A' ys.length c'] w fun e w' => e = .returned (.bool (decide (xs = ys))) ∧ ∃ m, w' = w.drewN m := by
  refine calls_hide fun Q HQ => ?_
  have HQ' := Lib.hid HQ
  have HR := Lib.hid hr
  have HR' := Lib.hid hr'
  clear HQ hr hr'
  by_cases hlen : xs.length = ys.length
  case neg =>
    have hs : decide (xs = ys) = false := decide_eq_false (fun e => hlen (by rw [e]))
    rw [hs] at HQ'
    go_enter Try.func5, Try.ntmps5
    go_wp2
    exact HQ'.out _ _ ⟨rfl, 0, rfl⟩
  have HL := Lib.hid hlen
  have hA' : (.slice A' ys.length c' : Value) = .slice A' xs.length c' := by rw [hlen]
  rw [hA']
  clear hlen hA'
  have HNE := Lib.hid (show ∀ j (h1 : j < xs.length), xs[j] ≠ ys[j]'(by have := HL.out; omega) → decide (xs = ys) = false from fun j h1 h2 => decide_eq_false (fun e => h2 (by subst e; rfl)))
  have HEQ := Lib.hid (show (∀ i, i < xs.length → xs[i]? = ys[i]?) → decide (xs = ys) = true from fun h => decide_eq_true (eq_of_take HL.out h))
  go_enter Try.func5, Try.ntmps5
  go_wp2
  go_loopw [13] (fun k wr => ∃ j : Nat, j ≤ xs.length ∧ k = .int .i64 j ∧ (∀ i, i < j → xs[i]? = ys[i]?) ∧ ∃ m, wr = w.drewN m) (fun k _ => xs.length - (intOf k).toNat)
  case atStart => exact ⟨0, Nat.zero_le _, rfl, fun i hi => absurd hi (Nat.not_lt_zero i), 0, rfl⟩
  case round =>
    obtain ⟨j, hj, rfl, hn, m, rfl⟩ := hrel
    have HN := Lib.hid hn
    clear hn
    by_cases hlt : j < xs.length
    · have hlt2 : j < ys.length := by have := HL.out; omega
      obtain ⟨ad, rfl, hc0⟩ := HR.out.at_ (j := j) (u := Value.int .i64 xs[j]) (by simp [List.getElem?_eq_getElem hlt])
      obtain ⟨ad', rfl, hc0'⟩ := HR'.out.at_ (j := j) (u := Value.int .i64 ys[j]) (by simp [List.getElem?_eq_getElem hlt2])
      have HX := Lib.hid (List.getElem?_eq_getElem hlt)
      have HY := Lib.hid (List.getElem?_eq_getElem hlt2)
      have HNE2 := Lib.hid (HNE.out j hlt)
      generalize xs[j] = x at *
      generalize ys[j] = y at *
      by_cases hxy : x = y
      · subst hxy
        go_wp2
        go_quiet (fail)
        go_wp2
        go_roundw
        case rel => exact ⟨j + 1, by omega, by go_num, fun i hi => by
          rcases Nat.lt_or_ge i j with h | h
          · exact HN.out i h
          · have : i = j := by omega
            subst this
            rw [HX.out, HY.out], m + nq, by first | rfl | exact World.drewN_drewN _ _ _⟩
        case measure => simp [intOf]; omega
      · have hs := HNE2.out hxy
        rw [hs] at HQ'
        skip
        all_goals
          go_wp2
          go_quiet (fail)
          go_wp2
          exact HQ'.out _ _ ⟨rfl, m + nq, by first | rfl | exact World.drewN_drewN _ _ _⟩
    · have hje : j = xs.length := by omega
      subst hje
      have hs := HEQ.out HN.out
      rw [hs] at HQ'
      go_wp2
      exact HQ'.out _ _ ⟨rfl, m, rfl⟩

theorem run_append_lits {P : Program} {w : World} {s : Nat} (t ty e : TypeId) (z : Value) (size bytes : Nat) (h0s : 0 < size) (ht : P.underlying t = some (.slice e)) (hinfo : (P.info? e).map (fun i => (i.zero, i.size, i.bytes)) = some (some z, size, bytes)) (hz : z.cells.size = size) (hs : Blk w s e [])
    {A : Option Addr} {n c : Nat} {us : List Value} (hr : us.length = n * size ∧ (0 < n → ∃ ad, A = some ad ∧ ∀ j u, us[j]? = some u → w.cell? (ad.add j) = some u)) (h1 : ∀ u ∈ us, u.oneCell' = true) (h63 : n ≤ maxLen) (hb : n * bytes ≤ 140737488355328) (base : Nat) (hbase : base ≤ s) :
    ∃ v w', (Builtin.append_ #[t, t] ty #[.slice (some ⟨s, 0, none⟩) 0 0, .slice A n c]).run P w = .ok v w' ∧ Below w.heap.size w w' ∧ w'.ownsRow base e size v n us ∧ ∀ k, v.ownBlock = some k → k < w'.heap.size ∧ (w.heap.size ≤ k ∨ k = s) := by
  obtain ⟨i0, hi, hzz⟩ := Option.map_eq_some_iff.1 hinfo
  simp only [Prod.mk.injEq] at hzz
  obtain ⟨hz0, hz1, hz2⟩ := hzz
  have hlt := hs.lt
  rcases Nat.eq_zero_or_pos n with rfl | hn
  · have hus : us = [] := List.eq_nil_of_length_eq_zero (by simpa using hr.1)
    subst hus
    have hown : w.ownsRow base e size (.slice (some ⟨s, 0, none⟩) 0 0) 0 [] := ⟨by simp, .inr ⟨s, 0, #[], rfl, hbase, hs, Nat.le_refl _, by simp [maxLen], by simp, by simp⟩⟩
    have hrun : (Builtin.append_ #[t, t] ty #[.slice (some ⟨s, 0, none⟩) 0 0, .slice A 0 c]).run P w = .ok (.slice (some ⟨s, 0, none⟩) 0 0) w := by
      cases A with
      | none =>
        simp [Builtin.append_, run_underlying ht, sizeOf, typeInfo, hi, Builtin.lenOf, Builtin.firstCells, storeCells, loadCells, loadCellsFrom, hz1, Result.andThen]
      | some ad =>
        simp [Builtin.append_, run_underlying ht, sizeOf, typeInfo, hi, Builtin.lenOf, Builtin.firstCells, storeCells, loadCells, loadCellsFrom, hz1, Result.andThen]
    exact ⟨_, w, hrun, Below.refl _ _, hown, fun k hk => by
      simp [Value.ownBlock] at hk
      subst hk
      exact ⟨hlt, .inr rfl⟩⟩
  · obtain ⟨ad, rfl, hc⟩ := hr.2 hn
    obtain ⟨v, w', hrun, hown, hg⟩ := run_append_arg_grows (P := P) w t ty e i0 z size bytes ht hi hz0 hz1 hz2 hz h0s ⟨s, 0, none⟩ 0 0 [] (by simp) (by simp) ad n c us (by have := hr.1; omega) hc (by omega) (by omega) (by rw [Nat.zero_add]; exact hb)
    refine ⟨v, w', by simpa using hrun, ⟨hg.os, hg.tape, hg.output, hg.size, fun k hk => hg.block k hk (by simp)⟩, ?_, fun k hk => ?_⟩
    · have : w'.ownsRow w.heap.size e size v n us := by simpa using hown
      exact own_weaken this (by omega)
    · have := World.ownsRow.lt hown k hk
      exact ⟨this.2, .inl this.1⟩
theorem one_int (l : List Int) : ∀ u ∈ l.map (Value.int .i64), u.oneCell' = true := fun u hu => by
  obtain ⟨x, _, rfl⟩ := List.mem_map.1 hu
  rfl
theorem append_exec {P : Program} {o : Oper} {a : Act} {s x : Operand} {t : TypeId} {v u r : Value} {w w1 : World} (ho : o.op = .call { callee := .builtin .append, args := #[s, x], argTypes := #[t, t] }) (hs : a.eval s = v) (hx : a.eval x = u)
    (hr : (Builtin.append_ #[t, t] o.type #[v, u]).run P w = .ok r w1) : (execOp a.eval o).run P w = .ok (.value r) w1 := by
  simp [execOp, ho, resolve, invoke, builtin, hs, hx, hr, Result.andThen]
/-- append([]T{}, l...) as a step of a walk; behind 'at_builtin'. -/
theorem print_append_spread {P : Program} {ops : Array Oper} {rest : List Oper} {o : Oper} {a : Act} {Q : Exit → Act → World → Prop} {W : World} (hgd : o.guard = none) (s x : Operand) (t e : TypeId) (z : Value) (size bytes : Nat) (h0s : 0 < size)
    (ho : o.op = .call { callee := .builtin .append, args := #[s, x], argTypes := #[t, t] }) (ht : P.underlying t = some (.slice e)) (hinfo : (P.info? e).map (fun i => (i.zero, i.size, i.bytes)) = some (some z, size, bytes)) (hz : z.cells.size = size)
    {A : Option Addr} {n c : Nat} {us : List Value} (hs : a.eval s = .slice (some ⟨W.heap.size, 0, none⟩) 0 0) (hx : a.eval x = .slice A n c)
    (hr : us.length = n * size ∧ (0 < n → ∃ ad, A = some ad ∧ ∀ j u, us[j]? = some u → (W.alloc (.cells #[] e)).cell? (ad.add j) = some u)) (h1 : ∀ u ∈ us, u.oneCell' = true) (h63 : n ≤ maxLen) (hb : n * bytes ≤ 140737488355328)
    (h : ∀ v w', w'.ownsRow W.heap.size e size v n us → Below W.heap.size W w' → wpList P ops Q rest (a.put o.dst v) w') :
    wpList P ops Q (o :: rest) a (W.alloc (.cells #[] e)) := by
  obtain ⟨v, w', hrun, hbl, hown, _⟩ := run_append_lits (P := P) (w := W.alloc (.cells #[] e)) (s := W.heap.size) t o.type e z size bytes h0s ht hinfo hz (by simpa using Blk.new W e []) hr h1 h63 hb W.heap.size (Nat.le_refl _)
  refine wpList_plain hgd fun K hK => ?_
  unfold Oper.wp
  rw [append_exec ho hs hx hrun]
  exact hK _ _ (h v w' hown (((Below.refl W.heap.size W).alloc (Nat.le_refl _) _).trans (hbl.mono (by simp))))
theorem top_copyInts (w : World) (A : Option Addr) (c : Nat) (xs : List Int) (hx : Row1 w A xs.length (xs.map (Value.int .i64))) (hl : xs.length * 8 ≤ 140737488351232) :
    Calls Try.prog 6 #[.slice A xs.length c] w fun e w' => ∃ v, e = .returned v ∧ w'.ownsRow w.heap.size TII 1 v xs.length (xs.map (Value.int .i64)) ∧ Below w.heap.size w w' := by
  refine calls_hide fun Q HQ => ?_
  have HQ' := Lib.hid HQ
  have HR := Lib.hid (hx.below ((Below.refl w.heap.size w).alloc (Nat.le_refl _) (.cells #[] TII)))
  clear HQ hx
  go_enter Try.func6, Try.ntmps6
  go_wp2_with (at_builtin; refine print_append_spread (W := w) rfl _ _ 22 TII (.int .i64 0) 1 8 (by decide) rfl Try.underlying22 tinfo_int rfl (A := A) (n := xs.length) (c := c) (us := xs.map (Value.int .i64)) rfl rfl ⟨by simp, HR.out.2⟩ (one_int _) (by simp only [maxLen]; omega) (by omega) ?_)
  intro v w1 ho hb
  have HO := Lib.hid ho
  have HB := Lib.hid hb
  clear ho hb
  go_wp2
  exact HQ'.out _ _ ⟨_, rfl, HO.out, HB.out⟩
end Go.Proofs.Ytoeaoeekjabaaaa
