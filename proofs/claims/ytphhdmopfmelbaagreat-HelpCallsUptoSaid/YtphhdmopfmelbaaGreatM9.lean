/- Joined texts: GrowB Ref02 Ref13D Ref13K Tape HelpN. -/
import Derived.Test.YtphhdmopfmelbaaGreatM1
import Derived.Test.YtphhdmopfmelbaaGreatM2
import Derived.Test.YtphhdmopfmelbaaGreatM4
import Derived.Test.YtphhdmopfmelbaaGreatM5
import Derived.Test.YtphhdmopfmelbaaGreatM6
import Derived.Test.YtphhdmopfmelbaaGreatM7
import Derived.Test.YtphhdmopfmelbaaGreatM8
import Derived.BigQuiet
import Derived.Deep.QuietTactic
import Derived.ArgAppend

/- Small words for walks that make lists: append as a step; an append to an empty literal. No program but its types. -/
namespace Go.Proofs.YtphhdmopfmelbaaGreat
open Go.RowKit Go.Proofs.YtphhdmopfmelbaaGreatW.PrintWords
set_option linter.unusedVariables false
set_option linter.unusedSimpArgs false

theorem one_int (l : List Int) : ∀ u ∈ l.map (Value.int .i64), u.oneCell' = true := fun u hu => by
  obtain ⟨x, _, rfl⟩ := List.mem_map.1 hu
  rfl
theorem one_bool (l : List Bool) : ∀ u ∈ l.map Value.bool, u.oneCell' = true := fun u hu => by
  obtain ⟨x, _, rfl⟩ := List.mem_map.1 hu
  rfl
theorem append_exec {P : Program} {o : Oper} {a : Act} {s x : Operand} {t : TypeId} {v u r : Value} {w w1 : World} (ho : o.op = .call { callee := .builtin .append, args := #[s, x], argTypes := #[t, t] }) (hs : a.eval s = v) (hx : a.eval x = u)
    (hr : (Builtin.append_ #[t, t] o.type #[v, u]).run P w = .ok r w1) : (execOp a.eval o).run P w = .ok (.value r) w1 := by
  unfold execOp
  simp only [ho, resolve, invoke, builtin, Sem.run_bind, Sem.run_pure, Result.andThen_ok, List.map_toArray, List.map_cons, List.map_nil, hs, hx, hr]
theorem store_exec {P : Program} {o : Oper} {a : Act} {p x : Operand} {t : TypeId} {v u : Value} {w w1 : World} (ho : o.op = .store t p x) (hp : a.eval p = v) (hx : a.eval x = u)
    (hr : (Instr.storeAt t v u).run P w = .ok () w1) : (execOp a.eval o).run P w = .ok .skip w1 := by
  unfold execOp
  simp only [ho, Sem.run_bind, Sem.run_pure, Result.andThen_ok, hp, hx, hr]
theorem run_append_lits {P : Program} {w : World} {s : Nat} (t ty e : TypeId) (z : Value) (size bytes : Nat) (h0s : 0 < size) (ht : P.underlying t = some (.slice e)) (hinfo : (P.info? e).map (fun i => (i.zero, i.size, i.bytes)) = some (some z, size, bytes)) (hz : z.cells.size = size) (hs : Blk w s e [])
    {A : Option Addr} {n c : Nat} {us : List Value} (hr : us.length = n * size ∧ (0 < n → ∃ ad, A = some ad ∧ ∀ j u, us[j]? = some u → w.cell? (ad.add j) = some u)) (h1 : ∀ u ∈ us, u.oneCell' = true) (h63 : n ≤ maxLen) (hb : n * bytes ≤ 140737488355328) (base : Nat) (hbase : base ≤ s) :
    ∃ v w', (Builtin.append_ #[t, t] ty #[.slice (some ⟨s, 0, none⟩) 0 0, .slice A n c]).run P w = .ok v w' ∧ Below w.heap.size w w' ∧ w'.ownsRow base e size v n us ∧ ∀ k, v.ownBlock = some k → k < w'.heap.size ∧ (w.heap.size ≤ k ∨ k = s) := by
  obtain ⟨i0, hi, hzz⟩ := Option.map_eq_some_iff.1 hinfo
  simp only [Prod.mk.injEq] at hzz
  obtain ⟨hz0, hz1, hz2⟩ := hzz
  have hlt := hs.lt
  rcases Nat.eq_zero_or_pos n with rfl | hn
  · have hus : us = [] := List.eq_nil_of_length_eq_zero (by simpa using hr.1)
    subst hus
    have hown : w.ownsRow base e size (.slice (some ⟨s, 0, none⟩) 0 0) 0 [] := ⟨by simp, .inr ⟨s, 0, #[], rfl, hbase, hs, Nat.le_refl _, by simp [maxLen], by simp, by simp⟩⟩
    have hrun : (Builtin.append_ #[t, t] ty #[.slice (some ⟨s, 0, none⟩) 0 0, .slice A 0 c]).run P w = .ok (.slice (some ⟨s, 0, none⟩) 0 0) w := by
      cases A with
      | none =>
        simp [Builtin.append_, run_underlying ht, sizeOf, typeInfo, hi, Builtin.lenOf, Builtin.firstCells, storeCells, loadCells, loadCellsFrom, hz1, Result.andThen]
      | some ad =>
        simp [Builtin.append_, run_underlying ht, sizeOf, typeInfo, hi, Builtin.lenOf, Builtin.firstCells, storeCells, loadCells, loadCellsFrom, hz1, Result.andThen]
    exact ⟨_, w, hrun, Below.refl _ _, hown, fun k hk => by
      simp [Value.ownBlock] at hk
      subst hk
      exact ⟨hlt, .inr rfl⟩⟩
  · obtain ⟨ad, rfl, hc⟩ := hr.2 hn
    obtain ⟨v, w', hrun, hown, hg⟩ := run_append_arg_grows (P := P) w t ty e i0 z size bytes ht hi hz0 hz1 hz2 hz h0s ⟨s, 0, none⟩ 0 0 [] (by simp) (by simp) ad n c us (by have := hr.1; omega) hc (by omega) (by omega) (by rw [Nat.zero_add]; exact hb)
    refine ⟨v, w', by simpa using hrun, ⟨hg.os, hg.tape, hg.output, hg.size, fun k hk => hg.block k hk (by simp)⟩, ?_, fun k hk => ?_⟩
    · have : w'.ownsRow w.heap.size e size v n us := by simpa using hown
      exact own_weaken this (by omega)
    · have := World.ownsRow.lt hown k hk
      exact ⟨this.2, .inl this.1⟩
/-- append([]T{}, l...) as a step of a walk; behind 'at_builtin'. -/
theorem print_append_spread {P : Program} {ops : Array Oper} {rest : List Oper} {o : Oper} {a : Act} {Q : Exit → Act → World → Prop} {W : World} (hgd : o.guard = none) (s x : Operand) (t e : TypeId) (z : Value) (size bytes : Nat) (h0s : 0 < size)
    (ho : o.op = .call { callee := .builtin .append, args := #[s, x], argTypes := #[t, t] }) (ht : P.underlying t = some (.slice e)) (hinfo : (P.info? e).map (fun i => (i.zero, i.size, i.bytes)) = some (some z, size, bytes)) (hz : z.cells.size = size)
    {A : Option Addr} {n c : Nat} {us : List Value} (hs : a.eval s = .slice (some ⟨W.heap.size, 0, none⟩) 0 0) (hx : a.eval x = .slice A n c)
    (hr : us.length = n * size ∧ (0 < n → ∃ ad, A = some ad ∧ ∀ j u, us[j]? = some u → (W.alloc (.cells #[] e)).cell? (ad.add j) = some u)) (h1 : ∀ u ∈ us, u.oneCell' = true) (h63 : n ≤ maxLen) (hb : n * bytes ≤ 140737488355328)
    (h : ∀ v w', w'.ownsRow W.heap.size e size v n us → Below W.heap.size W w' → wpList P ops Q rest (a.put o.dst v) w') :
    wpList P ops Q (o :: rest) a (W.alloc (.cells #[] e)) := by
  obtain ⟨v, w', hrun, hbl, hown, _⟩ := run_append_lits (P := P) (w := W.alloc (.cells #[] e)) (s := W.heap.size) t o.type e z size bytes h0s ht hinfo hz (by simpa using Blk.new W e []) hr h1 h63 hb W.heap.size (Nat.le_refl _)
  refine wpList_plain hgd fun K hK => ?_
  unfold Oper.wp
  rw [append_exec ho hs hx hrun]
  exact hK _ _ (h v w' hown (((Below.refl W.heap.size W).alloc (Nat.le_refl _) _).trans (hbl.mono (by simp))))
end Go.Proofs.YtphhdmopfmelbaaGreat

/- larchref02: Copy, Ints. -/
namespace Go.Proofs.YtphhdmopfmelbaaGreat
open Go.RowKit Go.Proofs.YtphhdmopfmelbaaGreatW.PrintWords
set_option linter.unusedVariables false
set_option linter.unusedSimpArgs false

theorem ref02_Copy (w : World) (A : Option Addr) (c : Nat) (xs : List Int) (hx : Row1 w A xs.length (xs.map (Value.int .i64))) (hl : xs.length * 8 ≤ 140737488351232) :
    Calls Tryz.prog 63 #[.slice A xs.length c] w fun e w' => ∃ v, e = .returned v ∧ w'.ownsRow w.heap.size TII 1 v xs.length (xs.map (Value.int .i64)) ∧ Below w.heap.size w w' := by
  refine calls_hide fun Q HQ => ?_
  have HQ' := Lib.hid HQ
  have HR := Lib.hid (hx.below ((Below.refl w.heap.size w).alloc (Nat.le_refl _) (.cells #[] TII)))
  clear HQ hx
  go_enter Tryz.func63, Tryz.ntmps63
  go_wp2_with (at_builtin; refine print_append_spread (W := w) rfl _ _ 23 TII (.int .i64 0) 1 8 (by decide) rfl Tryz.underlying23 tinfo_int rfl (A := A) (n := xs.length) (c := c) (us := xs.map (Value.int .i64)) rfl rfl ⟨by simp, HR.out.2⟩ (one_int _) (by simp only [maxLen]; omega) (by omega) ?_)
  intro v w1 ho hb
  have HO := Lib.hid ho
  have HB := Lib.hid hb
  clear ho hb
  go_wp2
  exact HQ'.out _ _ ⟨_, rfl, HO.out, HB.out⟩
theorem eq_of_take {α : Type} {xs ys : List α} (hl : xs.length = ys.length) (h : ∀ i, i < xs.length → xs[i]? = ys[i]?) : xs = ys := by
  apply List.ext_getElem? 
  intro i
  rcases Nat.lt_or_ge i xs.length with hi | hi
  · exact h i hi
  · rw [List.getElem?_eq_none hi, List.getElem?_eq_none (by omega)]

set_option maxHeartbeats 1000000 in
theorem ref02_Ints (A : Option Addr) (c : Nat) (xs : List Int) (A' : Option Addr) (c' : Nat) (ys : List Int) (w : World) (hr : Row1 w A xs.length (xs.map (Value.int .i64))) (hr' : Row1 w A' ys.length (ys.map (Value.int .i64))) (hl : xs.length ≤ 1000000000000000) :
    Calls Tryz.prog 16 #[.slice A xs.length c, .slice A' ys.length c'] w fun e w' => e = .returned (.bool (decide (xs = ys))) ∧ ∃ m, w' = w.drewN m := by
  refine calls_hide fun Q HQ => ?_
  have HQ' := Lib.hid HQ
  have HR := Lib.hid hr
  have HR' := Lib.hid hr'
  clear HQ hr hr'
  by_cases hlen : xs.length = ys.length
  case neg =>
    have hs : decide (xs = ys) = false := decide_eq_false (fun e => hlen (by rw [e]))
    rw [hs] at HQ'
    go_enter Tryz.func16, Tryz.ntmps16
    go_wp2
    exact HQ'.out _ _ ⟨rfl, 0, rfl⟩
  have HL := Lib.hid hlen
  have hA' : (.slice A' ys.length c' : Value) = .slice A' xs.length c' := by rw [hlen]
  rw [hA']
  clear hlen hA'
  have HNE := Lib.hid (show ∀ j (h1 : j < xs.length), xs[j] ≠ ys[j]'(by have := HL.out; omega) → decide (xs = ys) = false from fun j h1 h2 => decide_eq_false (fun e => h2 (by subst e; rfl)))
  have HEQ := Lib.hid (show (∀ i, i < xs.length → xs[i]? = ys[i]?) → decide (xs = ys) = true from fun h => decide_eq_true (eq_of_take HL.out h))
  go_enter Tryz.func16, Tryz.ntmps16
  go_wp2
  go_loopw [5] (fun k wr => ∃ j : Nat, j ≤ xs.length ∧ k = .int .i64 j ∧ (∀ i, i < j → xs[i]? = ys[i]?) ∧ ∃ m, wr = w.drewN m) (fun k _ => xs.length - (intOf k).toNat)
  case atStart => exact ⟨0, Nat.zero_le _, rfl, fun i hi => absurd hi (Nat.not_lt_zero i), 0, rfl⟩
  case round =>
    obtain ⟨j, hj, rfl, hn, m, rfl⟩ := hrel
    have HN := Lib.hid hn
    clear hn
    by_cases hlt : j < xs.length
    · have hlt2 : j < ys.length := by have := HL.out; omega
      obtain ⟨ad, rfl, hc0⟩ := HR.out.at_ (j := j) (u := Value.int .i64 xs[j]) (by simp [List.getElem?_eq_getElem hlt])
      obtain ⟨ad', rfl, hc0'⟩ := HR'.out.at_ (j := j) (u := Value.int .i64 ys[j]) (by simp [List.getElem?_eq_getElem hlt2])
      have HX := Lib.hid (List.getElem?_eq_getElem hlt)
      have HY := Lib.hid (List.getElem?_eq_getElem hlt2)
      have HNE2 := Lib.hid (HNE.out j hlt)
      generalize xs[j] = x at *
      generalize ys[j] = y at *
      by_cases hxy : x = y
      · subst hxy
        go_wp2
        go_quiet (fail)
        go_wp2
        go_roundw
        case rel => exact ⟨j + 1, by omega, by go_num, fun i hi => by
          rcases Nat.lt_or_ge i j with h | h
          · exact HN.out i h
          · have : i = j := by omega
            subst this
            rw [HX.out, HY.out], m + nq, by first | rfl | exact World.drewN_drewN _ _ _⟩
        case measure => simp [intOf]; omega
      · have hs := HNE2.out hxy
        rw [hs] at HQ'
        skip
        all_goals
          go_wp2
          go_quiet (fail)
          go_wp2
          exact HQ'.out _ _ ⟨rfl, m + nq, by first | rfl | exact World.drewN_drewN _ _ _⟩
    · have hje : j = xs.length := by omega
      subst hje
      have hs := HEQ.out HN.out
      rw [hs] at HQ'
      go_wp2
      exact HQ'.out _ _ ⟨rfl, m, rfl⟩

end Go.Proofs.YtphhdmopfmelbaaGreat

/- larchref13: Copy. Written by p_copy13.py. -/
namespace Go.Proofs.YtphhdmopfmelbaaGreat
open Go.RowKit Go.Proofs.YtphhdmopfmelbaaGreatW.PrintWords Go.Proofs.YtphhdmopfmelbaaGreatW.PrintLast
set_option linter.unusedVariables false
set_option linter.unusedSimpArgs false

theorem winfo_row : (Tryz.prog.info? 23).map (fun i => (i.zero, i.size, i.bytes)) = some (some (.slice none 0 0), 1, 24) := by kernel_rfl
theorem winfo_bool : (Tryz.prog.info? 4).map (fun i => (i.zero, i.size, i.bytes)) = some (some (.bool false), 1, 1) := by kernel_rfl
theorem wsizeR3 : (Tryz.prog.info? TRW3).map (·.size) = some 5 := by kernel_rfl
abbrev zeroW : List Value := [.slice none 0 0, .slice none 0 0, .slice none 0 0, .slice none 0 0, .slice none 0 0]
theorem res_end3 {w1 : World} {g : Nat} {cs : List Value} (hb : Blk w1 g TRW3 zeroW) (a b c d f : Value) (wz : World)
    (e : wz = ((((w1.setCell ⟨g, 0, none⟩ a).setCell ⟨g, 1, none⟩ b).setCell ⟨g, 2, none⟩ c).setCell ⟨g, 3, none⟩ d).setCell ⟨g, 4, none⟩ f) :
    Blk wz g TRW3 [a, b, c, d, f] ∧ Fr w1 wz (fun k => k = g) := by
  subst e
  exact ⟨((((hb.set 0 a).set 1 b).set 2 c).set 3 d).set 4 f,
    (((((Fr.refl w1 (fun k => k = g)).setCell ⟨g, 0, none⟩ a (fun _ => rfl)).setCell ⟨g, 1, none⟩ b (fun _ => rfl)).setCell ⟨g, 2, none⟩ c (fun _ => rfl)).setCell ⟨g, 3, none⟩ d (fun _ => rfl)).setCell ⟨g, 4, none⟩ f (fun _ => rfl)⟩
/-- While the rows of fields are copied. -/
structure CpAt (w0 : World) (v : WV) (d : WD) (pb : Nat) (j : Nat) (fv : Value) (us : List Value) (w : World) : Prop where
  below : Below w0.heap.size w0 w
  par : Blk w pb TRW3 (v.cells d)
  res : Blk w (pb + 1) TRW3 zeroW
  out : OutW w0.heap.size ⟨d.fields.take j, [], [], [], []⟩ fv (.slice none 0 0) (.slice none 0 0) (.slice none 0 0) (.slice none 0 0) us w
theorem CpAt.more {w0 : World} {v : WV} {d : WD} {pb j : Nat} {fv : Value} {us : List Value} {w w' : World} (h : CpAt w0 v d pb j fv us w) (hb : Below w.heap.size w w') : CpAt w0 v d pb j fv us w' :=
  ⟨h.below.trans (hb.mono h.below.size), h.par.below hb h.par.lt, h.res.below hb h.res.lt, h.out.below hb⟩
theorem CpAt.round {w0 : World} {v : WV} {d : WD} {pb j : Nat} {fv v1 u : Value} {us : List Value} {w wz w1 : World} (h : CpAt w0 v d pb j fv us w) (hj : j < d.fields.length) (hb : Below w.heap.size w wz)
    (hu : wz.ownsRow w.heap.size TII 1 u d.fields[j].length (d.fields[j].map (Value.int .i64))) (hg : wz.grownBy w1 fv.ownBlock) (ho : w1.ownsRow w0.heap.size TRI 1 v1 (j + 1) (us ++ [u])) : CpAt w0 v d pb (j + 1) v1 (us ++ [u]) w1 := by
  have hz := h.more hb
  have hs0 := h.below.size
  have hlen : (d.fields.take j).length = j := by simp; omega
  have hf := Fr.of_grown hg
  have hne : ∀ {k ys}, Blk wz k TRW3 ys → ¬ some k = fv.ownBlock := fun hx e2 => by
    obtain ⟨c, hc⟩ := owns_typed hz.out.f _ e2.symm
    exact absurd ((show Blk wz _ TRI c from hc).inj hx).1 (by decide)
  have hp := hz.out.pushF (r := d.fields[j]) (v' := v1) hg (own_weaken hu hs0) (fun k hk hx => by
    have h1 := (World.ownsRow.lt hu k hk).1
    have h2 := (h.out.foot hx).2.1
    omega) (by simpa [hlen] using ho)
  have htk : d.fields.take j ++ [d.fields[j]] = d.fields.take (j + 1) := take_one'' d.fields j hj
  simp only [htk] at hp
  exact ⟨hz.below.trans (hf.below hz.below.size (fun k hk => (World.ownsRow.lt hz.out.f k hk.symm).1)), hf.blk hz.par (hne hz.par), hf.blk hz.res (hne hz.res), hp⟩
/-- The rows, and what has been made beside them. -/
theorem cp_out {B : Nat} {d : WD} {fv iv mv sv zv : Value} {us : List Value} {w w' : World} (h : OutW B ⟨d.fields, [], [], [], []⟩ fv (.slice none 0 0) (.slice none 0 0) (.slice none 0 0) (.slice none 0 0) us w) (hbl : Below w.heap.size w w') (hB : B ≤ w.heap.size)
    (h1 : w'.ownsRow w.heap.size TII 1 iv d.infos.length (d.infos.map (Value.int .i64))) (h2 : w'.ownsRow w.heap.size TBB 1 mv d.marks.length (d.marks.map Value.bool)) (h3 : w'.ownsRow w.heap.size TII 1 sv d.states.length (d.states.map (Value.int .i64))) (h4 : w'.ownsRow w.heap.size TBB 1 zv d.frozen.length (d.frozen.map Value.bool))
    (hd1 : ∀ k, iv.ownBlock = some k → sv.ownBlock ≠ some k) (hd2 : ∀ k, mv.ownBlock = some k → zv.ownBlock ≠ some k) : OutW B d fv iv mv sv zv us w' := by
  have ho := h.below hbl
  have key : ∀ {v : Value} {n : Nat} {xs : List Value}, w'.ownsRow w.heap.size TII 1 v n xs → ∀ k, v.ownBlock = some k → ∀ u ∈ us, u.ownBlock ≠ some k := fun hv k hk u hu e => by
    have a1 := (World.ownsRow.lt hv k hk).1
    have a2 := (h.foot (.inr (.inr (.inr (.inr (.inr ⟨u, hu, e⟩)))))).2.1
    omega
  exact ⟨ho.f, ho.inn, ho.dd, own_weaken h1 hB, own_weaken h2 hB, own_weaken h3 hB, own_weaken h4 hB, key h1, key h3, hd1, hd2⟩

set_option maxHeartbeats 8000000 in
set_option maxRecDepth 100000 in
theorem ref13_Copy (w : World) (v : WV) (d : WD) (hv : v.Reads w d) (hl : d.fields.length ≤ 1000000000 ∧ d.infos.length * 8 ≤ 140737488351232 ∧ d.marks.length ≤ 140737488351232 ∧ d.states.length * 8 ≤ 140737488351232 ∧ d.frozen.length ≤ 140737488351232) (hr : ∀ r ∈ d.fields, r.length * 8 ≤ 140737488351232) :
    Calls Tryz.prog 42 #[v.val d] w fun e w' => ∃ fv iv mv sv zv us, e = .returned (.agg #[fv, iv, mv, sv, zv]) ∧ OutW w.heap.size d fv iv mv sv zv us w' ∧ Below w.heap.size w w' := by
  refine calls_hide fun Q HQ => ?_
  have HQ' := Lib.hid HQ
  have HV := Lib.hid hv
  have HRr := Lib.hid hr
  have HL := Lib.hid hl
  have hba := ((Below.refl w.heap.size w).alloc (Nat.le_refl _) (.cells (v.cells d).toArray TRW3)).alloc (by simp) (.cells #[.slice none 0 0, .slice none 0 0, .slice none 0 0, .slice none 0 0, .slice none 0 0] TRW3)
  have hb1 := (Blk.new w TRW3 (v.cells d)).alloc (.cells #[.slice none 0 0, .slice none 0 0, .slice none 0 0, .slice none 0 0, .slice none 0 0] TRW3)
  have hb2 := Blk.new (w.alloc (.cells (v.cells d).toArray TRW3)) TRW3 zeroW
  rw [World.size_alloc] at hb2
  have HAT := Lib.hid (show CpAt w v d w.heap.size 0 (.slice none 0 0) [] _ from ⟨hba, hb1, hb2, OutW.empty _ _⟩)
  clear HQ hv hr hl hba hb1 hb2
  go_enter Tryz.func42, Tryz.ntmps42
  go_wp2
  go_loopw [4, 3] (fun k fv wr => ∃ (j : Nat) (us : List Value), j ≤ d.fields.length ∧ k = .int .i64 j ∧ CpAt w v d w.heap.size j fv us wr) (fun k _ _ => d.fields.length - (intOf k).toNat)
  case atStart => exact ⟨0, [], Nat.zero_le _, rfl, HAT.out⟩
  case round =>
    clear HAT
    obtain ⟨j, us, hj, rfl, hat⟩ := hrel
    have HAT := Lib.hid hat
    have hp0 : wr.cell? ⟨w.heap.size, 0, none⟩ = some (.slice v.A0 d.fields.length v.c0) := hat.par.cell 0
    have hlb : d.fields.length ≤ 1000000000 := HL.out.1
    clear hat
    by_cases hlt : j < d.fields.length
    · obtain ⟨ad, hA, A', c', hr0, _, hrow⟩ := row_at HV.out.h0 hlt
      have hr1 := pw_cell_below HAT.out.below hr0
      have hrl := HRr.out _ (List.getElem_mem hlt)
      have HC := Lib.hid (ref02_Copy wr A' c' d.fields[j] ((row1_of_C hrow).below HAT.out.below) hrl)
      have HFIN := Lib.hid (fun wz w1 u v1 => HAT.out.round (wz := wz) (w1 := w1) (u := u) (v1 := v1) hlt)
      have hfo := HAT.out.out.f
      have hlen : (d.fields.take j).length = j := by simp; omega
      simp only [hlen] at hfo
      have HFO := Lib.hid hfo
      obtain ⟨Af, cf, ef, _, _⟩ := owns_slice hfo
      generalize d.fields[j] = row at *
      obtain ⟨A0, c0, A1, c1, A2, c2, A3, c3, A4, c4⟩ := v
      simp only at hA hp0
      subst hA
      subst ef
      clear hr0 hrow hfo hlen
      go_wp2_with fail
      refine HC.out.mono ?_
      rintro e w1 ⟨u, rfl, hown, hbl⟩
      obtain ⟨Au, cu, eu, _, _⟩ := owns_slice hown
      have HU := Lib.hid hown
      have HB := Lib.hid hbl
      have HFb := Lib.hid (owns_fr HFO.out (Fr.of_below0 (S := fun _ => False) hbl) (fun _ _ => id))
      have HBw := Lib.hid (HAT.out.below.trans (hbl.mono HAT.out.below.size))
      clear hown hbl HC hr1 hp0
      subst eu
      go_wp2_with (at_builtin; refine print_append_cells w.heap.size rfl _ _ 22 TRI (.slice none 0 0) 1 24 rfl Tryz.underlying22 winfo_row rfl (by decide) (by decide) (.slice Af j cf) j _ [.slice Au row.length cu] rfl rfl rfl (by simp [Value.oneCell']) HFb.out HBw.out HBw.out.size (by omega) ?_)
      intro v1 w2 hown2 hb2 hg2 hat2
      have HN := Lib.hid (HFIN.out w1 w2 _ v1 HB.out HU.out hg2 hown2)
      clear hown2 hb2 hg2 hat2 HFIN HU HB HFb HBw HFO HAT
      go_wp2
      go_roundw
      case rel => exact ⟨j + 1, _, by omega, by go_num, HN.out⟩
      case measure => simp [intOf]; omega
    · have hje : j = d.fields.length := by omega
      subst hje
      clear hlt hj
      have hout := HAT.out.out
      rw [List.take_length] at hout
      have HOUT := Lib.hid hout
      obtain ⟨Af, cf, ef, _, _⟩ := owns_slice hout.f
      subst ef
      clear hout
      go_wp2
      refine start_ (n := 17) (S := fun _ => True) (ds := []) #[false, false, false, false, false, false, false, false, false, false, false, false, false, false, false, false, false] (by kernel_rfl) rfl rfl trivial (fun _ => ?_)
      have HBA := Lib.hid HAT.out.below.drew
      have HOUTA := Lib.hid (HOUT.out.below (w' := wr.drew) (Below.refl _ _).drew)
      have HBL1 := Lib.hid (HAT.out.par.drew)
      have HBL2 := Lib.hid (HAT.out.res.drew)
      clear HAT HOUT hp0
      generalize wr.drew = wA at *
      have hpb : ∃ pb, pb = w.heap.size := ⟨_, rfl⟩
      obtain ⟨pb, hpb⟩ := hpb
      rw [← hpb] at HBL1 HBL2 ⊢
      have HC1 := Lib.hid (fun w' (hb : Below wA.heap.size wA w') => show w'.cell? ⟨pb, 1, none⟩ = some (.slice v.A1 d.infos.length v.c1) from pw_cell_below hb (HBL1.out.cell 1))
      have HC2 := Lib.hid (fun w' (hb : Below wA.heap.size wA w') => show w'.cell? ⟨pb, 2, none⟩ = some (.slice v.A2 d.marks.length v.c2) from pw_cell_below hb (HBL1.out.cell 2))
      have HC3 := Lib.hid (fun w' (hb : Below wA.heap.size wA w') => show w'.cell? ⟨pb, 3, none⟩ = some (.slice v.A3 d.states.length v.c3) from pw_cell_below hb (HBL1.out.cell 3))
      have HC4 := Lib.hid (fun w' (hb : Below wA.heap.size wA w') => show w'.cell? ⟨pb, 4, none⟩ = some (.slice v.A4 d.frozen.length v.c4) from pw_cell_below hb (HBL1.out.cell 4))
      have HR1 := Lib.hid (fun w' (hb : Below wA.heap.size wA w') => ((row1_of_C HV.out.h1).below HBA.out).below hb)
      have HR2 := Lib.hid (fun w' (hb : Below wA.heap.size wA w') => ((row1_of_C HV.out.h2).below HBA.out).below hb)
      have HR3 := Lib.hid (fun w' (hb : Below wA.heap.size wA w') => ((row1_of_C HV.out.h3).below HBA.out).below hb)
      have HR4 := Lib.hid (fun w' (hb : Below wA.heap.size wA w') => ((row1_of_C HV.out.h4).below HBA.out).below hb)
      have HPB := Lib.hid hpb
      clear hpb HBL1
      refine grow_region (md := .any) (w0 := wA) (B := [0, 0, 2, 6, 0, 0, 32, 126, 0, 256, 1022, 0, 0, 4096, 16382, 32767, 65535]) [(0, 21), (1, 22), (2, 23), (3, 24), (4, 25), (5, 26), (6, 27), (7, 28), (8, 29), (9, 30), (10, 31), (11, 32), (12, 33), (13, 34), (14, 35), (15, 36)] [16] (fun i => [3, 4, 7, 10, 11, 14].contains i) (fun i => if i = 3 then 1 else if i < 8 then 2 else if i = 10 then 3 else if i < 15 then 4 else 0) (fun i V w' => match i with
          | 0 => V 0 = .slice Af d.fields.length cf
          | 1 => V 1 = .pointer (some ⟨pb, 1, none⟩)
          | 2 => V 2 = .slice v.A1 d.infos.length v.c1
          | 3 => w'.ownsRow wA.heap.size TII 1 (V 3) d.infos.length (d.infos.map (Value.int .i64))
          | 4 => ∃ s, V 4 = .slice (some ⟨s, 0, none⟩) 0 0 ∧ Blk w' s TBB [] ∧ wA.heap.size ≤ s
          | 5 => V 5 = .pointer (some ⟨pb, 2, none⟩)
          | 6 => V 6 = .slice v.A2 d.marks.length v.c2
          | 7 => w'.ownsRow wA.heap.size TBB 1 (V 7) d.marks.length (d.marks.map Value.bool)
          | 8 => V 8 = .pointer (some ⟨pb, 3, none⟩)
          | 9 => V 9 = .slice v.A3 d.states.length v.c3
          | 10 => w'.ownsRow wA.heap.size TII 1 (V 10) d.states.length (d.states.map (Value.int .i64))
          | 11 => ∃ s, V 11 = .slice (some ⟨s, 0, none⟩) 0 0 ∧ Blk w' s TBB [] ∧ wA.heap.size ≤ s
          | 12 => V 12 = .pointer (some ⟨pb, 4, none⟩)
          | 13 => V 13 = .slice v.A4 d.frozen.length v.c4
          | 14 => w'.ownsRow wA.heap.size TBB 1 (V 14) d.frozen.length (d.frozen.map Value.bool)
          | 15 => V 15 = .agg #[.slice Af d.fields.length cf, V 3, V 7, V 10, V 14]
          | _ => True) rfl (by kernel_rfl) (by kernel_rfl) (by kernel_rfl) (by kernel_rfl) (by kernel_rfl) (by kernel_rfl) (by kernel_rfl) (by kernel_rfl) ?_ ?_ ?_ ?_
      · intro e he V V' w' h hp
        simp only [List.mem_cons, List.not_mem_nil, or_false] at he
        rcases he with rfl | rfl | rfl | rfl | rfl | rfl | rfl | rfl | rfl | rfl | rfl | rfl | rfl | rfl | rfl | rfl
        · simp only [← h 0 (.inl rfl)]; exact hp
        · simp only [← h 1 (.inl rfl)]; exact hp
        · simp only [← h 2 (.inl rfl)]; exact hp
        · simp only [← h 3 (.inl rfl)]; exact hp
        · simp only [← h 4 (.inl rfl)]; exact hp
        · simp only [← h 5 (.inl rfl)]; exact hp
        · simp only [← h 6 (.inl rfl)]; exact hp
        · simp only [← h 7 (.inl rfl)]; exact hp
        · simp only [← h 8 (.inl rfl)]; exact hp
        · simp only [← h 9 (.inl rfl)]; exact hp
        · simp only [← h 10 (.inl rfl)]; exact hp
        · simp only [← h 11 (.inl rfl)]; exact hp
        · simp only [← h 12 (.inl rfl)]; exact hp
        · simp only [← h 13 (.inl rfl)]; exact hp
        · simp only [← h 14 (.inl rfl)]; exact hp
        · simp only [← h 15 (.inl rfl), ← h 3 (.inr (by kernel_rfl)), ← h 7 (.inr (by kernel_rfl)), ← h 10 (.inr (by kernel_rfl)), ← h 14 (.inr (by kernel_rfl))]; exact hp
      · intro e he V w1 w2 hp hb
        simp only [List.mem_cons, List.not_mem_nil, or_false] at he
        rcases he with rfl | rfl | rfl | rfl | rfl | rfl | rfl | rfl | rfl | rfl | rfl | rfl | rfl | rfl | rfl | rfl
        · exact hp
        · exact hp
        · exact hp
        · exact owns_fr hp (Fr.of_below0 (S := fun _ => False) hb) (fun _ _ => id)
        · exact let ⟨s, h1, h2, h3⟩ := hp; ⟨s, h1, (Fr.of_below0 (S := fun _ => False) hb).blk h2 id, h3⟩
        · exact hp
        · exact hp
        · exact owns_fr hp (Fr.of_below0 (S := fun _ => False) hb) (fun _ _ => id)
        · exact hp
        · exact hp
        · exact owns_fr hp (Fr.of_below0 (S := fun _ => False) hb) (fun _ _ => id)
        · exact let ⟨s, h1, h2, h3⟩ := hp; ⟨s, h1, (Fr.of_below0 (S := fun _ => False) hb).blk h2 id, h3⟩
        · exact hp
        · exact hp
        · exact owns_fr hp (Fr.of_below0 (S := fun _ => False) hb) (fun _ _ => id)
        · exact hp
      · intro e he
        simp only [List.mem_cons, List.not_mem_nil, or_false] at he
        rcases he with rfl | rfl | rfl | rfl | rfl | rfl | rfl | rfl | rfl | rfl | rfl | rfl | rfl | rfl | rfl | rfl
        · intro V a w' hd ho hB
          have e3 : a.tmps[3]? = some (.slice Af d.fields.length cf) := (ho 3 (by decide)).trans rfl
          refine ⟨_, rfl, rfl, fun K hK => ?_⟩
          clear hd ho
          refine value_ (w1 := w') (v := .slice Af d.fields.length cf) rfl rfl ?_ (hK.out _ _ (Below.refl _ _) (setV_self _ _ _) (fun h => absurd h (by decide)))
          go_simp
        · intro V a w' hd ho hB
          have e1 : a.tmps[1]? = some (.pointer (some ⟨pb, 0, none⟩)) := (ho 1 (by decide)).trans rfl
          refine ⟨_, rfl, rfl, fun K hK => ?_⟩
          clear hd ho
          refine value_ (w1 := w') (v := .pointer (some ⟨pb, 1, none⟩)) rfl rfl ?_ (hK.out _ _ (Below.refl _ _) (setV_self _ _ _) (fun h => absurd h (by decide)))
          go_simp
        · intro V a w' hd ho hB
          obtain ⟨e22, p22, o22⟩ := hd (1, 22) (by decide) (by kernel_rfl)
          rw [show V 1 = .pointer (some ⟨pb, 1, none⟩) from p22] at e22
          have hc := (HC1.out w' hB)
          refine ⟨_, rfl, rfl, fun K hK => ?_⟩
          clear hd ho
          refine value_ (w1 := w') (v := .slice v.A1 d.infos.length v.c1) rfl rfl ?_ (hK.out _ _ (Below.refl _ _) (setV_self _ _ _) (fun h => absurd h (by decide)))
          go_simp
        · intro V a w' hd ho hB
          obtain ⟨e23, p23, o23⟩ := hd (2, 23) (by decide) (by kernel_rfl)
          rw [show V 2 = .slice v.A1 d.infos.length v.c1 from p23] at e23
          refine ⟨_, rfl, rfl, fun K hK => ?_⟩
          refine goes_ Tryz.func63 (by kernel_rfl) rfl #[.slice v.A1 d.infos.length v.c1] (by rfl) rfl rfl (by simp [eval_of e23]) ?_
          refine (ref02_Copy w' _ _ _ (HR1.out w' hB) (by have := HL.out; omega)).mono ?_
          rintro e w2 ⟨v1, rfl, hown, hbl⟩
          exact ⟨_, rfl, hK.out _ _ hbl (by show w2.ownsRow _ _ _ (setV V 3 v1 3) _ _; rw [setV_self]; exact own_weaken hown hB.size) (fun _ k hk => ⟨(World.ownsRow.lt hown k hk).2, .inl (World.ownsRow.lt hown k hk).1⟩)⟩
        · intro V a w' hd ho hB
          refine ⟨_, rfl, rfl, fun K hK => ?_⟩
          refine value_ (w1 := w'.alloc (.cells #[] 4)) (v := .slice (some ⟨w'.heap.size, 0, none⟩) 0 0) rfl rfl ?_ (hK.out _ _ ((Below.refl _ _).alloc (Nat.le_refl _) _) ⟨w'.heap.size, setV_self _ _ _, Blk.new w' TBB [], hB.size⟩ (fun _ k hk => ?_))
          · clear hd ho hK; go_simp
          · have hk' : k = w'.heap.size := by simpa [Value.ownBlock] using hk.symm
            subst hk'
            exact ⟨by simp, .inl (Nat.le_refl _)⟩
        · intro V a w' hd ho hB
          have e1 : a.tmps[1]? = some (.pointer (some ⟨pb, 0, none⟩)) := (ho 1 (by decide)).trans rfl
          refine ⟨_, rfl, rfl, fun K hK => ?_⟩
          clear hd ho
          refine value_ (w1 := w') (v := .pointer (some ⟨pb, 2, none⟩)) rfl rfl ?_ (hK.out _ _ (Below.refl _ _) (setV_self _ _ _) (fun h => absurd h (by decide)))
          go_simp
        · intro V a w' hd ho hB
          obtain ⟨e26, p26, o26⟩ := hd (5, 26) (by decide) (by kernel_rfl)
          rw [show V 5 = .pointer (some ⟨pb, 2, none⟩) from p26] at e26
          have hc := (HC2.out w' hB)
          refine ⟨_, rfl, rfl, fun K hK => ?_⟩
          clear hd ho
          refine value_ (w1 := w') (v := .slice v.A2 d.marks.length v.c2) rfl rfl ?_ (hK.out _ _ (Below.refl _ _) (setV_self _ _ _) (fun h => absurd h (by decide)))
          go_simp
        · intro V a w' hd ho hB
          obtain ⟨e25, p25, o25⟩ := hd (4, 25) (by decide) (by kernel_rfl)
          obtain ⟨e27, p27, o27⟩ := hd (6, 27) (by decide) (by kernel_rfl)
          rw [show V 6 = .slice v.A2 d.marks.length v.c2 from p27] at e27
          refine ⟨_, rfl, rfl, fun K hK => ?_⟩
          obtain ⟨s, hs, hbk, hle⟩ := p25
          rw [hs] at e25
          obtain ⟨v1, w1, hrun, hbl, hown, hfp⟩ := run_append_lit (P := Tryz.prog) (w := w') (s := s) 24 24 4 (.bool false) 1 Tryz.underlying24 winfo_bool rfl hbk (HR2.out w' hB) (one_bool _) (by simp only [maxLen]; have := HL.out; omega) (by have := HL.out; omega) wA.heap.size hle
          refine value_ (w1 := w1) (v := v1) rfl rfl (append_exec rfl (eval_of e25) (eval_of e27) hrun) (hK.out _ _ hbl (by show w1.ownsRow _ _ _ (setV V 7 v1 7) _ _; rw [setV_self]; exact hown) (fun _ k hk => ?_))
          obtain ⟨h1, h2⟩ := hfp k hk
          refine ⟨h1, ?_⟩
          rcases h2 with h2 | h2
          · exact .inl h2
          · exact .inr ⟨(4, 25), by decide, by kernel_rfl, rfl, by show (V 4).ownBlock = _; rw [hs, h2]; rfl⟩
        · intro V a w' hd ho hB
          have e1 : a.tmps[1]? = some (.pointer (some ⟨pb, 0, none⟩)) := (ho 1 (by decide)).trans rfl
          refine ⟨_, rfl, rfl, fun K hK => ?_⟩
          clear hd ho
          refine value_ (w1 := w') (v := .pointer (some ⟨pb, 3, none⟩)) rfl rfl ?_ (hK.out _ _ (Below.refl _ _) (setV_self _ _ _) (fun h => absurd h (by decide)))
          go_simp
        · intro V a w' hd ho hB
          obtain ⟨e29, p29, o29⟩ := hd (8, 29) (by decide) (by kernel_rfl)
          rw [show V 8 = .pointer (some ⟨pb, 3, none⟩) from p29] at e29
          have hc := (HC3.out w' hB)
          refine ⟨_, rfl, rfl, fun K hK => ?_⟩
          clear hd ho
          refine value_ (w1 := w') (v := .slice v.A3 d.states.length v.c3) rfl rfl ?_ (hK.out _ _ (Below.refl _ _) (setV_self _ _ _) (fun h => absurd h (by decide)))
          go_simp
        · intro V a w' hd ho hB
          obtain ⟨e30, p30, o30⟩ := hd (9, 30) (by decide) (by kernel_rfl)
          rw [show V 9 = .slice v.A3 d.states.length v.c3 from p30] at e30
          refine ⟨_, rfl, rfl, fun K hK => ?_⟩
          refine goes_ Tryz.func63 (by kernel_rfl) rfl #[.slice v.A3 d.states.length v.c3] (by rfl) rfl rfl (by simp [eval_of e30]) ?_
          refine (ref02_Copy w' _ _ _ (HR3.out w' hB) (by have := HL.out; omega)).mono ?_
          rintro e w2 ⟨v1, rfl, hown, hbl⟩
          exact ⟨_, rfl, hK.out _ _ hbl (by show w2.ownsRow _ _ _ (setV V 10 v1 10) _ _; rw [setV_self]; exact own_weaken hown hB.size) (fun _ k hk => ⟨(World.ownsRow.lt hown k hk).2, .inl (World.ownsRow.lt hown k hk).1⟩)⟩
        · intro V a w' hd ho hB
          refine ⟨_, rfl, rfl, fun K hK => ?_⟩
          refine value_ (w1 := w'.alloc (.cells #[] 4)) (v := .slice (some ⟨w'.heap.size, 0, none⟩) 0 0) rfl rfl ?_ (hK.out _ _ ((Below.refl _ _).alloc (Nat.le_refl _) _) ⟨w'.heap.size, setV_self _ _ _, Blk.new w' TBB [], hB.size⟩ (fun _ k hk => ?_))
          · clear hd ho hK; go_simp
          · have hk' : k = w'.heap.size := by simpa [Value.ownBlock] using hk.symm
            subst hk'
            exact ⟨by simp, .inl (Nat.le_refl _)⟩
        · intro V a w' hd ho hB
          have e1 : a.tmps[1]? = some (.pointer (some ⟨pb, 0, none⟩)) := (ho 1 (by decide)).trans rfl
          refine ⟨_, rfl, rfl, fun K hK => ?_⟩
          clear hd ho
          refine value_ (w1 := w') (v := .pointer (some ⟨pb, 4, none⟩)) rfl rfl ?_ (hK.out _ _ (Below.refl _ _) (setV_self _ _ _) (fun h => absurd h (by decide)))
          go_simp
        · intro V a w' hd ho hB
          obtain ⟨e33, p33, o33⟩ := hd (12, 33) (by decide) (by kernel_rfl)
          rw [show V 12 = .pointer (some ⟨pb, 4, none⟩) from p33] at e33
          have hc := (HC4.out w' hB)
          refine ⟨_, rfl, rfl, fun K hK => ?_⟩
          clear hd ho
          refine value_ (w1 := w') (v := .slice v.A4 d.frozen.length v.c4) rfl rfl ?_ (hK.out _ _ (Below.refl _ _) (setV_self _ _ _) (fun h => absurd h (by decide)))
          go_simp
        · intro V a w' hd ho hB
          obtain ⟨e32, p32, o32⟩ := hd (11, 32) (by decide) (by kernel_rfl)
          obtain ⟨e34, p34, o34⟩ := hd (13, 34) (by decide) (by kernel_rfl)
          rw [show V 13 = .slice v.A4 d.frozen.length v.c4 from p34] at e34
          refine ⟨_, rfl, rfl, fun K hK => ?_⟩
          obtain ⟨s, hs, hbk, hle⟩ := p32
          rw [hs] at e32
          obtain ⟨v1, w1, hrun, hbl, hown, hfp⟩ := run_append_lit (P := Tryz.prog) (w := w') (s := s) 24 24 4 (.bool false) 1 Tryz.underlying24 winfo_bool rfl hbk (HR4.out w' hB) (one_bool _) (by simp only [maxLen]; have := HL.out; omega) (by have := HL.out; omega) wA.heap.size hle
          refine value_ (w1 := w1) (v := v1) rfl rfl (append_exec rfl (eval_of e32) (eval_of e34) hrun) (hK.out _ _ hbl (by show w1.ownsRow _ _ _ (setV V 14 v1 14) _ _; rw [setV_self]; exact hown) (fun _ k hk => ?_))
          obtain ⟨h1, h2⟩ := hfp k hk
          refine ⟨h1, ?_⟩
          rcases h2 with h2 | h2
          · exact .inl h2
          · exact .inr ⟨(11, 32), by decide, by kernel_rfl, rfl, by show (V 11).ownBlock = _; rw [hs, h2]; rfl⟩
        · intro V a w' hd ho hB
          obtain ⟨e21, p21, o21⟩ := hd (0, 21) (by decide) (by kernel_rfl)
          rw [show V 0 = .slice Af d.fields.length cf from p21] at e21
          obtain ⟨e24, p24, o24⟩ := hd (3, 24) (by decide) (by kernel_rfl)
          obtain ⟨e28, p28, o28⟩ := hd (7, 28) (by decide) (by kernel_rfl)
          obtain ⟨e31, p31, o31⟩ := hd (10, 31) (by decide) (by kernel_rfl)
          obtain ⟨e35, p35, o35⟩ := hd (14, 35) (by decide) (by kernel_rfl)
          obtain ⟨A1, c1, x1, _, _⟩ := owns_slice p24
          obtain ⟨A2, c2, x2, _, _⟩ := owns_slice p28
          obtain ⟨A3, c3, x3, _, _⟩ := owns_slice p31
          obtain ⟨A4, c4, x4, _, _⟩ := owns_slice p35
          rw [x1] at e24
          rw [x2] at e28
          rw [x3] at e31
          rw [x4] at e35
          refine ⟨_, rfl, rfl, fun K hK => ?_⟩
          refine value_ (w1 := w') (v := .agg #[.slice Af d.fields.length cf, V 3, V 7, V 10, V 14]) rfl rfl ?_ (hK.out _ _ (Below.refl _ _) (setV_self _ _ _) (fun h => absurd h (by decide)))
          clear hd ho hK
          rw [x1, x2, x3, x4]
          go_simp
      · intro V a w' hfr hB hP hap hlt
        have P0 := hP (0, 21) (by decide)
        have P1 := hP (1, 22) (by decide)
        have P2 := hP (2, 23) (by decide)
        have P3 := hP (3, 24) (by decide)
        have P4 := hP (4, 25) (by decide)
        have P5 := hP (5, 26) (by decide)
        have P6 := hP (6, 27) (by decide)
        have P7 := hP (7, 28) (by decide)
        have P8 := hP (8, 29) (by decide)
        have P9 := hP (9, 30) (by decide)
        have P10 := hP (10, 31) (by decide)
        have P11 := hP (11, 32) (by decide)
        have P12 := hP (12, 33) (by decide)
        have P13 := hP (13, 34) (by decide)
        have P14 := hP (14, 35) (by decide)
        have P15 := hP (15, 36) (by decide)
        clear hP
        have hrs := HBL2.out.below hB HBL2.out.lt
        subst hfr
        simp only [vrows, List.map_cons, List.map_nil, putSel, if_true, Act.put, List.setIfInBounds_toArray, List.set_cons_zero, List.set_cons_succ]
        have hst := run_store_run (P := Tryz.prog) (w := w') (g := pb + 1) (o := 0) TRW3 (.agg #[.slice Af d.fields.length cf, V 3, V 7, V 10, V 14]) [.slice Af d.fields.length cf, V 3, V 7, V 10, V 14] hrs rfl wsizeR3 (by simp) (by obtain ⟨A1, c1, x1, _, _⟩ := owns_slice P3; obtain ⟨A2, c2, x2, _, _⟩ := owns_slice P7; obtain ⟨A3, c3, x3, _, _⟩ := owns_slice P10; obtain ⟨A4, c4, x4, _, _⟩ := owns_slice P14; rw [x1, x2, x3, x4]; intro q hq; simp only [List.mem_cons, List.not_mem_nil, or_false] at hq; rcases hq with rfl | rfl | rfl | rfl | rfl <;> rfl)
        refine seq_skip rfl rfl rfl (store_exec rfl (eval_of rfl) (eval_of (by exact congrArg some P15)) hst) ?_
        obtain ⟨hgz, hfz⟩ := res_end3 (cs := []) hrs (.slice Af d.fields.length cf) (V 3) (V 7) (V 10) (V 14) _ rfl
        have HZ := Lib.hid (show OutW w.heap.size d (.slice Af d.fields.length cf) (V 3) (V 7) (V 10) (V 14) us _ from (cp_out HOUTA.out hB HBA.out.size P3 P7 P10 P14 (hap (3, 24) (by decide) (10, 31) (by decide) (by decide)) (hap (7, 28) (by decide) (14, 35) (by decide) (by decide))).other hfz (fun k hk => ⟨TRW3, _, hk ▸ hrs, by decide, by decide, by decide⟩))
        have HPBz := HPB.out
        have HBZ := Lib.hid ((HBA.out.trans (hB.mono HBA.out.size)).trans (hfz.below (Nat.le_trans HBA.out.size hB.size) (fun k hk => by rw [hk]; omega)))
        have HGZ := Lib.hid hgz
        obtain ⟨A1, c1, x1, _, _⟩ := owns_slice P3
        obtain ⟨A2, c2, x2, _, _⟩ := owns_slice P7
        obtain ⟨A3, c3, x3, _, _⟩ := owns_slice P10
        obtain ⟨A4, c4, x4, _, _⟩ := owns_slice P14
        clear hst hgz hfz hap hlt P0 P1 P2 P3 P4 P5 P6 P7 P8 P9 P10 P11 P12 P13 P14 P15 HC1 HC2 HC3 HC4 HR1 HR2 HR3 HR4 hB hrs HBL2 HOUTA HBA HPBz
        refine seq_nil ?_
        go_wp2
        (try simp only [Exit.inBlock, Exit.then])
        refine bodyPost_ret (results_cell_row rfl _ _ (pb + 1) TRW3 _ (0, 0) _ rfl HGZ.out Tryz.underlying26 rfl wsizeR3) rfl ?_
        exact HQ'.out _ _ ⟨_, _, _, _, _, us, rfl, HZ.out, HBZ.out⟩
end Go.Proofs.YtphhdmopfmelbaaGreat

/- larchref13: Kinds. -/
namespace Go.Proofs.YtphhdmopfmelbaaGreat
open Go.RowKit Go.Proofs.YtphhdmopfmelbaaGreatW.PrintWords
set_option linter.unusedVariables false
set_option linter.unusedSimpArgs false

theorem OutW.low {B B' : Nat} {d : WD} {fv iv mv sv zv : Value} {bs : List Value} {w : World} (h : OutW B' d fv iv mv sv zv bs w) (hB : B ≤ B') : OutW B d fv iv mv sv zv bs w :=
  ⟨own_weaken h.f hB, fun i u r h1 h2 => own_weaken (h.inn i u r h1 h2) hB, h.dd, own_weaken h.i hB, own_weaken h.m hB, own_weaken h.s hB, own_weaken h.z hB, h.dib, h.dsb, h.dis, h.dmz⟩
instance : Inhabited PlanD := ⟨⟨[], [], [], 0, 0, 0, 0⟩⟩
open Classical in
/-- What Kinds answers: the error, the kinds. -/
noncomputable def kinH (d : WD) (ps : List PlanD) (scx : Int) : Int × List Int :=
  if chkH d ps ≠ 0 then (chkH d ps, []) else if inH scx 0 ps.length then (0, (helpH d (ps.getD scx.toNat default) scx).2.1) else (1, [])
theorem kin_bad {d : WD} {ps : List PlanD} {scx : Int} (h : chkH d ps ≠ 0) : kinH d ps scx = (chkH d ps, []) := by unfold kinH; rw [if_pos h]
theorem kin_out {d : WD} {ps : List PlanD} {scx : Int} (h : chkH d ps = 0) (hn : ¬ inH scx 0 ps.length) : kinH d ps scx = (1, []) := by unfold kinH; rw [if_neg (by simp [h]), if_neg hn]
theorem kin_good {d : WD} {ps : List PlanD} {scx : Int} (h : chkH d ps = 0) (hn : inH scx 0 ps.length) : kinH d ps scx = (0, (helpH d (ps.getD scx.toNat default) scx).2.1) := by unfold kinH; rw [if_neg (by simp [h]), if_pos hn]
/-- What a Kinds leaves. -/
def KinPost (w : World) (r : Int × List Int) (e : Ending) (w' : World) : Prop := ∃ v, e = .returned (.tuple #[v, .int .i64 r.1]) ∧ w'.ownsRow w.heap.size TII 1 v r.2.length (r.2.map (Value.int .i64)) ∧ Below w.heap.size w w'
theorem frz_len (scx : Int) : ∀ (l : List (Int × Int)) (d : WD), (frzH scx d l).2.2.length ≤ 2 * l.length := fun l => by
  induction l with
  | nil => intro d; simp [frzH]
  | cons x l ih =>
    intro d
    obtain ⟨r, i⟩ := x
    unfold frzH
    split
    · have := ih { d with infos := d.infos.set r.toNat scx }
      simp only [List.length_cons]; omega
    · split
      · have := ih d
        simp only [List.length_cons]; omega
      · simp only [List.length_cons, List.length_nil]; omega
theorem mrk_len : ∀ (l : List (Int × Bool)) (d : WD), (mrkH d l).2.length ≤ l.length := fun l => by
  induction l with
  | nil => intro d; simp [mrkH]
  | cons x l ih =>
    intro d
    obtain ⟨r, f⟩ := x
    unfold mrkH
    split
    · have := ih { d with marks := d.marks.set r.toNat true }
      simp only [List.length_cons]; omega
    · have := ih d
      simp only [List.length_cons]; omega
theorem help_len (d : WD) (p : PlanD) (scx : Int) : (helpH d p scx).2.1.length ≤ 3 * p.V.length + 4 := by
  have h1 := frz_len scx (p.V.zip p.infos) d
  have h2 : (p.V.zip p.infos).length ≤ p.V.length := by rw [List.length_zip]; omega
  unfold helpH
  simp only
  split
  · have h4 : (p.V.zip p.fin).length ≤ p.V.length := by rw [List.length_zip]; omega
    have h5 : ∀ d', (mrkH d' (p.V.zip p.fin)).2.length ≤ p.V.length := fun d' => Nat.le_trans (mrk_len _ d') h4
    simp only [List.length_append, List.length_cons, List.length_nil]
    refine Nat.le_trans (Nat.add_le_add h1 (Nat.succ_le_succ (Nat.add_le_add_right (h5 _) _))) ?_
    omega
  · split <;> simp only [List.length_append, List.length_cons, List.length_nil] <;> omega
def lenV : Value → Nat | .slice _ n _ => n | _ => 0
theorem rest_inv {p : PlanD} {scx : Int} {d : WD} {s : HS} {ks : List Int} (h : Rest p scx d s ks) : ((stepH d s p scx).2.1 = true ∧ ks = [(stepH d s p scx).1]) ∨ ((stepH d s p scx).2.1 = false ∧ ∃ ks', ks = (stepH d s p scx).1 :: ks' ∧ Rest p scx (stepH d s p scx).2.2.2.2 (stepH d s p scx).2.2.2.1 ks') := by
  cases h with
  | last h => exact .inl ⟨h, rfl⟩
  | more h hr => exact .inr ⟨h, _, rfl, hr⟩
/-- While Kinds goes. -/
def KAt (wb : World) (bw hb : Nat) (p : PlanD) (scx : Int) (fv iv mv sv zv : Value) (us : List Value) (tot acc ks : List Int) (v : Value) (wr : World) : Prop :=
  ∃ d' s, StAt wb wr wr bw hb d' fv iv mv sv zv us scx s ∧ StOk d' p scx s ∧ Rest p scx d' s ks ∧ tot = acc ++ ks ∧ wr.ownsRow wb.heap.size TII 1 v acc.length (acc.map (Value.int .i64)) ∧ ∀ k, v.ownBlock = some k → ¬ OutFoot fv iv mv sv zv us k
set_option maxHeartbeats 8000000 in
set_option maxRecDepth 100000 in
theorem ref13_Kinds (w : World) (v : WV) (d : WD) (A : Option Addr) (c : Nat) (l : List PX) (scx : Int) (hv : v.Reads w d) (hp : PlansAt w A l) (hl : d.fields.length < 1000000000000000) (hl3 : d.states.length < 1000000000000000) (hr : ∀ r ∈ d.fields, r.length < 1000000000000000) (hl4 : l.length < 1000000000000000) (hl5 : ∀ x ∈ l, x.p.V.length < 1000000000000000) :
    Calls Tryz.prog 15 #[v.val d, .slice A l.length c, .int .i64 scx] w (KinPost w (kinH d (l.map PX.p) scx)) := by
  refine calls_hide fun Q HQ => ?_
  have HQ' := Lib.hid HQ
  have HV := Lib.hid hv
  have HP := Lib.hid hp
  have hbx := (Below.refl w.heap.size w).alloc (Nat.le_refl _) (.cells (v.cells d).toArray TRW3)
  have hbk := Blk.new w TRW3 (v.cells d)
  have HB := Lib.hid hbx
  have HK := Lib.hid hbk
  have HCK := Lib.hid (ref13_Check _ v d A c l (hv.below hbx) (hp.below hbx) hl hl3 hr hl4 hl5)
  have k0 := hbk.cell 0
  have k1 := hbk.cell 1
  have k2 := hbk.cell 2
  have k3 := hbk.cell 3
  have k4 := hbk.cell 4
  simp only [List.getElem?_cons_zero, List.getElem?_cons_succ] at k0 k1 k2 k3 k4
  clear HQ hv hp hbx hbk
  go_enter Tryz.func15, Tryz.ntmps15
  go_wp2_with fail
  refine HCK.out.mono ?_
  rintro e w1 ⟨rfl, hb1⟩
  have HB1 := Lib.hid (HB.out.trans (hb1.mono HB.out.size))
  have HK1 := Lib.hid (HK.out.below hb1 HK.out.lt)
  clear hb1 HB HK HCK k0 k1 k2 k3 k4
  by_cases hc : chkH d (l.map PX.p) = 0
  case neg =>
    have HR := Lib.hid (kin_bad (scx := scx) hc)
    rw [HR.out] at HQ'
    have hcb : (chkH d (l.map PX.p) != 0) = true := by rw [bne_iff_ne]; exact hc
    generalize chkH d (l.map PX.p) = ck at *
    clear HR hc
    go_wp2
    exact HQ'.out _ _ ⟨_, rfl, World.ownsRow_nil _ _ _ _, HB1.out⟩
  obtain ⟨hnb, hform, hps, hfits⟩ := chkH_zero hc
  have HC := Lib.hid hc
  by_cases hin : inH scx 0 l.length
  case neg =>
    have HR := Lib.hid (kin_out (scx := scx) hc (by rw [List.length_map]; exact hin))
    rw [HR.out] at HQ'
    have HI := Lib.hid (ref13_in_of scx 0 l.length false (inB_false.2 hin) w1)
    clear HR hnb hform hps hfits hin HC
    rw [hc]
    clear hc
    go_wp2_with fail
    refine HI.out.mono ?_
    rintro e w2 ⟨rfl, rfl⟩
    go_wp2
    exact HQ'.out _ _ ⟨_, rfl, World.ownsRow_nil _ _ _ _, HB1.out⟩
  have hin0 : 0 ≤ scx := hin.1
  have hin1 : scx < l.length := hin.2
  have hjn : scx.toNat < l.length := by omega
  have HI := Lib.hid (ref13_in_of scx 0 l.length true (inB_true.2 hin) w1)
  have HR := Lib.hid (kin_good (scx := scx) hc (by rw [List.length_map]; exact hin))
  rw [hc]
  have HXR := Lib.hid (HP.out.reads _ (List.getElem_mem hjn))
  have HXF := Lib.hid (hfits _ (List.mem_map_of_mem (List.getElem_mem hjn)))
  have HXL := Lib.hid (show (l[scx.toNat]).p.V.length ≤ 64 from Nat.le_of_not_lt fun h => hnb (.inr (.inr (.inr ⟨_, List.mem_map_of_mem (List.getElem_mem hjn), h⟩))))
  have HGD := Lib.hid (show (l.map PX.p).getD scx.toNat default = (l[scx.toNat]).p by simp [List.getD_eq_getElem?_getD, List.getElem?_eq_getElem hjn])
  rw [HR.out, HGD.out] at HQ'
  obtain ⟨pb, po, hA, p0, p1, p2, p3, p4, p5, p6⟩ := HP.out.at_ hjn
  have HC0 := Lib.hid p0
  have HC1 := Lib.hid p1
  have HC2 := Lib.hid p2
  have HC3 := Lib.hid p3
  have HC4 := Lib.hid p4
  have HC5 := Lib.hid p5
  have HC6 := Lib.hid p6
  clear p0 p1 p2 p3 p4 p5 p6 HR HGD hc HC
  generalize l[scx.toNat] = x at *
  obtain ⟨p, B0, k0, B1, k1, B2, k2⟩ := x
  replace HXF := Lib.hid (show p.Fits d from HXF.out)
  replace HXL := Lib.hid (show p.V.length ≤ 64 from HXL.out)
  have HRS := Lib.hid (rest_help (p := p) (scx := scx) HXF.out.v0 HXF.out.v1 HXF.out.v2 d)
  have HOK := Lib.hid (show StOk d p scx ⟨1, 0⟩ from ⟨hform.e1, hform.e2, hform.e4, HXF.out, hin0, by rw [← hps, List.length_map]; exact hin1, .inl rfl, fun _ => HXF.out.v0, Nat.zero_le _, HXL.out⟩)
  have hlen : d.fields.length ≤ 1000000000 ∧ d.infos.length * 8 ≤ 140737488351232 ∧ d.marks.length ≤ 140737488351232 ∧ d.states.length * 8 ≤ 140737488351232 ∧ d.frozen.length ≤ 140737488351232 := by
    have a1 : d.fields.length ≤ 64 := Nat.le_of_not_lt fun h => hnb (.inl h)
    have a2 : d.states.length ≤ 64 := Nat.le_of_not_lt fun h => hnb (.inr (.inl h))
    have := hform.e1; have := hform.e2; have := hform.e4
    omega
  have hrows : ∀ r ∈ d.fields, r.length * 8 ≤ 140737488351232 := fun r hr => by
    have : r.length ≤ 64 := Nat.le_of_not_lt fun h => hnb (.inr (.inr (.inl ⟨r, hr, h⟩)))
    omega
  have HCP := Lib.hid (ref13_Copy w1 v d (HV.out.below HB1.out) hlen hrows)
  have hll : l.length < 1000000 := by
    have a2 : d.states.length ≤ 64 := Nat.le_of_not_lt fun h => hnb (.inr (.inl h))
    rw [List.length_map] at hps
    omega
  have htl : (helpH d p scx).2.1.length ≤ (helpH d p scx).2.1.length := Nat.le_refl _
  have q0 := HK1.out.cell 0
  have q1 := HK1.out.cell 1
  have q2 := HK1.out.cell 2
  have q3 := HK1.out.cell 3
  have q4 := HK1.out.cell 4
  simp only [List.getElem?_cons_zero, List.getElem?_cons_succ] at q0 q1 q2 q3 q4
  clear hnb hform hps hfits hlen hrows hin HK1 htl
  go_wp2_with fail
  refine HI.out.mono ?_
  rintro e w2 ⟨rfl, rfl⟩
  go_wp2_with fail
  refine HCP.out.mono ?_
  rintro e w3 ⟨fv, iv, mv, sv, zv, us, rfl, hout, hb3⟩
  have HB3 := Lib.hid (HB1.out.trans (hb3.mono HB1.out.size))
  have HO := Lib.hid (hout.low HB1.out.size)
  clear hout hb3 HCP HI q0 q1 q2 q3 q4
  obtain ⟨Af, cf, ef, _, _⟩ := owns_slice HO.out.f
  obtain ⟨Ai, ci, ei, _, _⟩ := owns_slice HO.out.i
  obtain ⟨Am, cm, em, _, _⟩ := owns_slice HO.out.m
  obtain ⟨As, cs, es, _, _⟩ := owns_slice HO.out.s
  obtain ⟨Az, cz, ez, _, _⟩ := owns_slice HO.out.z
  subst ef ei em es ez
  have HBE := Lib.hid (ref13_Begin scx)
  go_wp2_with fail
  refine (HBE.out _).mono ?_
  rintro e w4 ⟨rfl, rfl⟩
  have hbx1 := Below.refl w3.heap.size w3
  have HS := Lib.hid (show StAt w _ ((w3.alloc (.cells #[.slice Af d.fields.length cf, .slice Ai d.infos.length ci, .slice Am d.marks.length cm, .slice As d.states.length cs, .slice Az d.frozen.length cz] TRW3)).alloc (.cells #[.int .i64 scx, .int .i64 1, .int .i64 0] THL)) w3.heap.size (w3.heap.size + 1) d _ _ _ _ _ us scx ⟨1, 0⟩ from
    ⟨(HB3.out.alloc HB3.out.size _).alloc (by simp; have := HB3.out.size; omega) _, HB3.out.size, by have := HB3.out.size; omega, (Blk.new w3 _ _).alloc _, HO.out.below (((Below.refl w3.heap.size w3).alloc (Nat.le_refl _) _).alloc (by simp) _), by have := Blk.new (w3.alloc (.cells #[.slice Af d.fields.length cf, .slice Ai d.infos.length ci, .slice Am d.marks.length cm, .slice As d.states.length cs, .slice Az d.frozen.length cz] TRW3)) THL (hcells scx ⟨1, 0⟩); rw [World.size_alloc] at this; exact this, Fr.refl _ _⟩)
  have HKA := Lib.hid (show KAt w w3.heap.size (w3.heap.size + 1) p scx _ _ _ _ _ us (helpH d p scx).2.1 [] (helpH d p scx).2.1 (.slice none 0 0) _ from ⟨d, ⟨1, 0⟩, HS.out, HOK.out, HRS.out, rfl, World.ownsRow_nil _ _ _ _, fun k hk => by cases hk⟩)
  clear HB3 HO HBE hbx1 HS HOK HRS HV
  go_wp2
  generalize w3.heap.size = bw at *
  have HTL := Lib.hid (show (helpH d p scx).2.1.length ≤ 100000 from by have h := help_len d p scx; have := HXL.out; omega)
  generalize (helpH d p scx).2.1 = tot at *
  go_loopw [11] (fun v wr => ∃ acc ks, KAt w bw (bw + 1) p scx (.slice Af d.fields.length cf) (.slice Ai d.infos.length ci) (.slice Am d.marks.length cm) (.slice As d.states.length cs) (.slice Az d.frozen.length cz) us tot acc ks v wr) (fun v _ => tot.length - lenV v)
  case atStart => exact ⟨[], tot, HKA.out⟩
  case round =>
    clear HKA
    obtain ⟨acc, ks, d', s, hS, hOK, hR, ht, ho, hap⟩ := hrel
    have q0 := pw_cell_below hS.below HC0.out
    have q1 := pw_cell_below hS.below HC1.out
    have q2 := pw_cell_below hS.below HC2.out
    have q3 := pw_cell_below hS.below HC3.out
    have q4 := pw_cell_below hS.below HC4.out
    have q5 := pw_cell_below hS.below HC5.out
    have q6 := pw_cell_below hS.below HC6.out
    have HST := Lib.hid (ref13_Step w wr bw (bw + 1) d' ⟨p, B0, k0, B1, k1, B2, k2⟩ _ _ _ _ _ us scx s HXR.out hS hOK)
    have HS := Lib.hid hS
    have HO := Lib.hid ho
    have HAP := Lib.hid hap
    have HT := Lib.hid ht
    have hOK2 := Lib.hid (stepH_ok hOK)
    have HRI := Lib.hid (rest_inv hR)
    obtain ⟨Aa, ca, ea, _, _⟩ := owns_slice ho
    subst ea
    try simp only at q0 q1 q2 q3 q4 q5 q6
    subst hA
    clear hS hOK hR ht ho hap
    go_wp2_with fail
    refine HST.out.mono ?_
    rintro e w5 ⟨rfl, hS5⟩
    have HS5 := Lib.hid hS5
    generalize stepH d' s p scx = st at *
    obtain ⟨k, dn, an, s', d''⟩ := st
    have hfr := hS5.fr
    have HO5 := Lib.hid (owns_fr HO.out hfr (fun q hq hx => by
      rcases hx with hx | rfl
      · exact HAP.out q hq hx
      · obtain ⟨c1, hc1⟩ := owns_typed HO.out _ hq
        exact absurd (hc1.inj HS.out.hlp).1 (by decide)))
    have hB5 := hS5.below
    have HB5 := Lib.hid hB5
    have hal : acc.length < tot.length := by
      rw [HT.out, List.length_append]
      rcases HRI.out with ⟨_, h⟩ | ⟨_, ks', h, _⟩ <;> rw [h] <;> simp
    have hbig := HTL.out
    clear hS5 hfr hB5 HST HO HS q0 q1 q2 q3 q4 q5 q6
    replace HS5 := Lib.hid (show StAt w wr w5 bw (bw + 1) d'' _ _ _ _ _ us scx s' from HS5.out)
    replace hOK2 := Lib.hid (show dn = false → StOk d'' p scx s' from hOK2.out)
    replace HRI := Lib.hid (show (dn = true ∧ ks = [k]) ∨ (dn = false ∧ ∃ ks', ks = k :: ks' ∧ Rest p scx d'' s' ks') from HRI.out)
    go_wp2_with (at_builtin; refine print_append_cells w.heap.size rfl _ _ 23 TII (.int .i64 0) 1 8 rfl Tryz.underlying23 tinfo_int rfl (by decide) (by decide) (.slice Aa acc.length ca) acc.length _ [.int .i64 k] rfl rfl rfl (by simp [Value.oneCell']) HO5.out HB5.out HB5.out.size (by omega) ?_)
    intro v1 w6 hown hb6 hg6 hat6
    have hB6 := HB5.out.trans (Below.refl _ _) 
    rcases HRI.out with ⟨rfl, hks⟩ | ⟨rfl, ks', hks, hR'⟩
    · have HF := Lib.hid (show KinPost w (0, tot) (.returned (.tuple #[v1, .int .i64 0])) w6 from ⟨v1, rfl, by
        rw [HT.out, hks]; simpa using hown, hb6⟩)
      obtain ⟨A6, c6, e6, _, _⟩ := owns_slice hown
      subst e6
      clear hown hb6 hg6 hat6 hB6 HS5 hOK2 HRI HT hks HO5 HB5 HAP
      go_wp2
      exact HQ'.out _ _ HF.out
    · have hfr6 : Fr w5 w6 (fun q => some q = (Value.slice Aa acc.length ca).ownBlock) := Fr.of_grown hg6
      have HN := Lib.hid (show KAt w bw (bw + 1) p scx (.slice Af d.fields.length cf) (.slice Ai d.infos.length ci) (.slice Am d.marks.length cm) (.slice As d.states.length cs) (.slice Az d.frozen.length cz) us tot (acc ++ [k]) ks' v1 w6 from by
        have hne : ∀ {q T : Nat} {xs : List Value}, Blk w5 q T xs → T ≠ TII → ¬ some q = (Value.slice Aa acc.length ca).ownBlock := fun hb hT e => by
          obtain ⟨c1, hc1⟩ := owns_typed HO5.out _ e.symm
          exact hT (hb.inj hc1).1
        have S5 := HS5.out
        have hO6 := S5.out.fr hfr6 (fun q hq e => HAP.out q e.symm hq)
        refine ⟨d'', s', ⟨hb6, S5.lw, S5.lh, hfr6.blk S5.box (hne S5.box (by decide)), hO6, hfr6.blk S5.hlp (hne S5.hlp (by decide)), Fr.refl _ _⟩, hOK2.out rfl, hR', by rw [HT.out, hks]; simp, by simpa using hown, fun q hq hx => ?_⟩
        rcases hat6 with hat | ⟨b, hb, hle⟩
        · exact HAP.out q (hat ▸ hq) hx
        · rw [hb] at hq; cases hq
          have := (S5.out.foot hx).2.1
          omega)
      have HM := Lib.hid (show tot.length - lenV v1 < tot.length - acc.length by
        obtain ⟨A6, c6, e6, _, _⟩ := owns_slice hown
        rw [e6]; show tot.length - (acc.length + 1) < _; omega)
      obtain ⟨A6, c6, e6, _, _⟩ := owns_slice hown
      subst e6
      clear hown hb6 hg6 hat6 hB6 HS5 hOK2 HRI HT hks HO5 HB5 hR' hfr6 HAP
      go_wp2
      go_roundw
      case rel => exact ⟨_, _, HN.out⟩
      case measure => exact HM.out
end Go.Proofs.YtphhdmopfmelbaaGreat

/- cell: NewTape, Tape.Kinds. -/
namespace Go.Proofs.YtphhdmopfmelbaaGreat
open Go.RowKit Go.Proofs.YtphhdmopfmelbaaGreatW.PrintWords
set_option linter.unusedVariables false
set_option linter.unusedSimpArgs false

set_option maxHeartbeats 400000 in
theorem tape_new (w : World) : Calls Tryz.prog 11 #[] w fun e w' => ∃ t, e = .returned (.pointer (some ⟨t, 0, none⟩)) ∧ TapeI w' w.heap.size t [] ∧ Below w.heap.size w w' := by
  have hb := Blk.new w 103 [.slice none 0 0]
  have H : TapeI (w.alloc (.cells #[.slice none 0 0] 103)) w.heap.size w.heap.size [] ∧ Below w.heap.size w (w.alloc (.cells #[.slice none 0 0] 103)) :=
    ⟨⟨.slice none 0 0, Nat.le_refl _, hb, World.ownsRow_nil _ _ _ _, by simp [Value.ownBlock]⟩, (Below.refl _ _).alloc (Nat.le_refl _) _⟩
  have H' := Lib.hid H
  clear hb H
  go_enter Tryz.func11, Tryz.ntmps11
  go_wp2
  go_ret
  exact ⟨_, rfl, H'.out⟩
set_option maxHeartbeats 400000 in
theorem tape_kinds (w : World) (B t : Nat) (ks : List Int) (h : TapeI w B t ks) (hl : ks.length ≤ 1000000000) :
    Calls Tryz.prog 17 #[.pointer (some ⟨t, 0, none⟩)] w fun e w' => ∃ v, e = .returned v ∧ w'.ownsRow w.heap.size TII 1 v ks.length (ks.map (Value.int .i64)) ∧ Below w.heap.size w w' := by
  obtain ⟨v, hB, hb, ho, hne⟩ := h
  obtain ⟨A, c, hv, hr, _⟩ := owns_slice ho
  have hnil : A = none → ks.length = 0 ∧ c = 0 := fun e => by
    subst e
    rcases ho.2 with ⟨h1, h2⟩ | ⟨g, cap, cur, h1, _⟩
    · rw [hv] at h1
      exact ⟨h2, (Value.slice.inj h1).2.2⟩
    · rw [hv] at h1
      exact absurd (Value.slice.inj h1).1 (by simp)
  have hc : w.cell? ⟨t, 0, none⟩ = some (.slice A ks.length c) := by rw [hb.cell 0, hv]; rfl
  have HC := Lib.hid (clone_any_int A ks.length c _ w hnil hr (by intro u hu; obtain ⟨n, _, rfl⟩ := List.mem_map.1 hu; rfl) (by omega))
  refine calls_hide fun Q HQ => ?_
  have HQ' := Lib.hid HQ
  clear HQ ho hv hr hnil hb
  go_enter Tryz.func17, Tryz.ntmps17
  go_wp2_with fail
  refine HC.out.mono ?_
  rintro e w1 ⟨A', c', rfl, h1, h2, h3, h4⟩
  have H1 := Lib.hid h1
  have H4 := Lib.hid h4
  clear h1 h2 h3 h4 HC
  go_wp2
  exact HQ'.out _ _ ⟨_, rfl, H1.out, H4.out⟩

end Go.Proofs.YtphhdmopfmelbaaGreat

/- help: Kinds. -/
namespace Go.Proofs.YtphhdmopfmelbaaGreat
open Go.RowKit Go.Proofs.YtphhdmopfmelbaaGreatW.PrintWords
set_option linter.unusedVariables false
set_option linter.unusedSimpArgs false

/-- What build leaves, as Help wants it. -/
theorem LiveHAt.helpAt {d : WD} {ps : List PlanD} {B m : Nat} {w : World} {R : Nat → Option RecO} {X : Nat → Option ScxO} {rs fs xs : List Nat} {v1 v2 v3 : Value} (h : LiveHAt d ps B m w R X rs fs xs v1 v2 v3) (hform : d.Formed) {j : Nat} {p : PlanD} (hj : j < d.states.length) (hp : ps[j]? = some p) (hf : p.Fits d)
    {B' : Nat} {g : Option Nat} (hg : GAtI w B' g []) (hB' : B' ≤ w.heap.size) :
    ∃ b o vs is fb bv bi bf cv ci cf rv ri rf, xs[j]? = some b ∧ HAtint B' g b fb vs is p.fin w bv bi bf cv ci cf rv ri rf w [] R X o ∧ (helpR R X b o vs is p.fin).2.1 = (helpH d p j).2.1 ∧ vs.length = p.V.length ∧ ∀ k, HelpSint vs fb b k → B ≤ k := by
  have hb : xs[j]? = some (xs[j]'(by have := h.hx; omega)) := List.getElem?_eq_getElem _
  obtain ⟨o, ho, hm⟩ := h.pl.at_ j _ p hb hp
  obtain ⟨o', ho', hst⟩ := h.stage.x j _ hb
  rw [ho] at ho'; cases ho'
  have hV : ∀ n ∈ p.V, 0 ≤ n ∧ n < rs.length := fun n hn => by rw [h.hr]; exact hf.hV n hn
  have hne : ∀ {u : Value} {e : Nat} {us : List Value}, w.ownsRow B e 1 u p.V.length us → ¬ u = .slice none 0 0 := fun ho e => by
    rcases ho.2 with ⟨_, h0⟩ | ⟨g, cap, cur, hv, _⟩
    · have := hf.v0; omega
    · rw [e] at hv; simp at hv
  obtain ⟨bv, cv, rv, ev, _, _, hbv⟩ := owns_blk hm.ov (hne hm.ov)
  obtain ⟨bi, ci, ri, ei, _, _, hbi⟩ := owns_blk hm.oi (hne hm.oi)
  obtain ⟨bf, cf, rf, ef, _, _, hbf⟩ := owns_blk hm.ob (hne hm.ob)
  have hJ : PJf ps fs xs j = (p.V.zip p.infos).map fun x => ip fs xs x.1 x.2 := by unfold PJf; rw [hp]
  have hmem : ∀ r ∈ p.V.map (fun n => rs.getD n.toNat 0), r ∈ rs := fun r hr => by
    obtain ⟨n, hn, rfl⟩ := List.mem_map.1 hr
    have := hV n hn
    exact getD_mem (by omega) 0
  have hR : ∀ r ∈ p.V.map (fun n => rs.getD n.toNat 0), (R r).isSome := fun r hr => by
    obtain ⟨i, hi⟩ := List.getElem?_of_mem (hmem r hr)
    obtain ⟨fb, h1, _⟩ := h.stage.r i r hi
    simp [h1]
  have hat : p.at_.toNat < p.V.length := by have := hf.a.1; have := hf.a.2; omega
  have hvr : (p.V.map fun n => rs.getD n.toNat 0).getD p.at_.toNat 0 = rs.getD (p.V.getD p.at_.toNat 0).toNat 0 := by
    simp [List.getD_eq_getElem?_getD, List.getElem?_eq_getElem hat]
  have hva := hV _ (getD_mem hat 0)
  have hrk : rs[(p.V.getD p.at_.toNat 0).toNat]? = some (rs.getD (p.V.getD p.at_.toNat 0).toNat 0) := by
    simp [List.getD_eq_getElem?_getD, List.getElem?_eq_getElem (show (p.V[p.at_.toNat]).toNat < rs.length by have := hV _ (List.getElem_mem hat); omega), List.getElem?_eq_getElem hat]
  obtain ⟨fb, hfb, hfbl⟩ := h.stage.r _ _ hrk
  refine ⟨_, o, p.V.map (fun n => rs.getD n.toNat 0), (p.V.zip p.infos).map fun x => ip fs xs x.1 x.2, fb, bv, bi, bf, cv, ci, cf, rv, ri, rf, hb, ?_, ?_, by simp, fun k hk => ?_⟩
  · refine ⟨hB', hg, Step.refl hg _, h.stage.rep, ⟨by simpa using ev, by simpa using ei, by simpa using ef, ?_, by rw [← hJ]; exact hbi, hbf, by simp [hf.v1], by simp [hf.v2]⟩, ho, hR, fun i hi => ?_, ?_, ?_, by rw [hm.e1]; exact hf.a.1, by rw [hm.e1]; simpa using hf.a.2, by rw [hm.e2]; exact hf.f.1, ?_, ?_⟩
    · have : (p.V.map fun n => pv rs[n.toNat]?) = (p.V.map fun n => rs.getD n.toNat 0).map fun b => pv (some b) := by
        rw [List.map_map]
        refine List.map_congr_left fun n hn => ?_
        have := hV n hn
        simp [List.getD_eq_getElem?_getD, List.getElem?_eq_getElem (show n.toNat < rs.length by omega)]
      rw [← this]; exact hbv
    · obtain ⟨x, hx, rfl⟩ := List.mem_map.1 hi
      unfold ip
      split
      · exact h.stage.okF _
      · exact h.stage.okX _
    · rw [hm.e3]; exact h.stage.okR _
    · rw [hm.e4]; exact h.stage.okR _
    · rw [hm.e1, hm.e2, hvr, rg_of hfb]
      simpa using hf.f.2
    · rw [hm.e1, hvr, rg_of hfb]
  · refine help_sim h.stage.ndr h.stage.ndx h.stage.len R X d p j _ o hb (fun i b hb => ?_) (by rw [hform.e1, h.hr]) (fun n hn => by have := hform.hI n hn; rw [h.hx]; exact this) hV (fun n hn => by have := hf.hI n hn; rw [h.hx]; exact this) hst.2
    obtain ⟨fb, h1, _⟩ := h.stage.r i b hb
    exact ⟨_, h1, rfl⟩
  · rcases hk with hk | rfl | rfl
    · exact h.stage.lo k (by simp [hmem k hk])
    · exact hfbl
    · exact h.stage.lo _ (by simp [List.mem_of_getElem? hb])
end Go.Proofs.YtphhdmopfmelbaaGreat
