/- larchlaw12: less. Written by p_less.py. -/
import Derived.Test.YtphhdmopfmelbaaLaw12A
namespace Go.Proofs.Ytphhdmopfmelbaa
open Go.RowKit Go.Proofs.YtphhdmopfmelbaaW.PrintWords Go.Proofs.YtphhdmopfmelbaaW.PrintLast
set_option linter.unusedVariables false
set_option linter.unusedSimpArgs false

abbrev TCA : Nat := 46
def lessD (d : WD) : WD := ⟨(d.fields.take 70).map (·.take 70), if d.fields.length > 70 then d.infos.take 70 else d.infos, if d.fields.length > 70 then d.marks.take 70 else d.marks, d.states.take 70, d.frozen.take 70⟩
abbrev caseC (v : WV) (d : WD) (A : Option Addr) (c n : Nat) (N M : Int) : List Value := [.slice v.A0 d.fields.length v.c0, .slice v.A1 d.infos.length v.c1, .slice v.A2 d.marks.length v.c2, .slice v.A3 d.states.length v.c3, .slice v.A4 d.frozen.length v.c4, .slice A n c, .int .i64 N, .int .i64 M]
abbrev caseV (v : WV) (d : WD) (A : Option Addr) (c : Nat) (l : List ActD) (N M : Int) : Value := .agg #[.slice v.A0 d.fields.length v.c0, .slice v.A1 d.infos.length v.c1, .slice v.A2 d.marks.length v.c2, .slice v.A3 d.states.length v.c3, .slice v.A4 d.frozen.length v.c4, .slice A l.length c, .int .i64 N, .int .i64 M]
abbrev zero8 : List Value := [.slice none 0 0, .slice none 0 0, .slice none 0 0, .slice none 0 0, .slice none 0 0, .slice none 0 0, .int .i64 0, .int .i64 0]
/-- While the rows of fields are cut. -/
structure LessAt (wo w0 : World) (v : WV) (d : WD) (cs : List Value) (j : Nat) (fv : Value) (us : List Value) (w : World) : Prop where
  below : Below w0.heap.size w0 w
  par : Blk w w0.heap.size TCA cs
  res : Blk w (w0.heap.size + 1) TCA zero8
  box : Blk w (w0.heap.size + 1 + 1) TRW (v.cells d)
  f : w.ownsRow w0.heap.size TRI 1 fv j us
  inn : ∀ (i : Nat) (u : Value), us[i]? = some u → ∃ (r : List Int) (A : Option Addr) (c : Nat), d.fields[i]? = some r ∧ u = .slice A (r.take 70).length c ∧ (r.take 70).length ≤ c ∧ KInt.C wo A (r.take 70).length (r.take 70)
  old : Below wo.heap.size wo w
  lo : wo.heap.size ≤ w0.heap.size
theorem LessAt.more {wo w0 : World} {v : WV} {d : WD} {cs : List Value} {j : Nat} {fv : Value} {us : List Value} {w w' : World} (h : LessAt wo w0 v d cs j fv us w) (hb : Below w.heap.size w w') : LessAt wo w0 v d cs j fv us w' :=
  let k {b T : Nat} {xs : List Value} (hx : Blk w b T xs) : Blk w' b T xs := (Fr.of_below0 (S := fun _ => False) hb).blk hx id
  ⟨h.below.trans (hb.mono h.below.size), k h.par, k h.res, k h.box, pw_own_below h.f hb, h.inn, h.old.trans (hb.mono h.old.size), h.lo⟩
theorem C_take {w : World} {A : Option Addr} {n : Nat} {xs : List Int} (h : KInt.C w A n xs) (k : Nat) : KInt.C w A (xs.take k).length (xs.take k) := by
  refine ⟨rfl, by have := h.1; have := h.2.1; have := List.length_take_le k xs; have := List.length_take_le' k xs; omega, fun hn => ?_⟩
  obtain ⟨ad, hA, hc⟩ := h.2.2 (by have := h.1; have := List.length_take_le' k xs; omega)
  exact ⟨ad, hA, fun j p hp => hc j p (by rw [List.getElem?_take] at hp; split at hp; exact hp; cases hp)⟩
theorem CB_take {w : World} {A : Option Addr} {n : Nat} {xs : List Bool} (h : Kd.bool.C w A n xs) (k : Nat) : Kd.bool.C w A (xs.take k).length (xs.take k) := by
  refine ⟨rfl, by have := h.1; have := h.2.1; have := List.length_take_le' k xs; omega, fun hn => ?_⟩
  obtain ⟨ad, hA, hc⟩ := h.2.2 (by have := h.1; have := List.length_take_le' k xs; omega)
  exact ⟨ad, hA, fun j p hp => hc j p (by rw [List.getElem?_take] at hp; split at hp; exact hp; cases hp)⟩
theorem less_round {wo w0 : World} {v : WV} {d : WD} {cs : List Value} {j : Nat} {fv v1 : Value} {us : List Value} {w wz w1 : World} (h : LessAt wo w0 v d cs j fv us w) {row : List Int} (hrow : d.fields[j]? = some row) {A : Option Addr} {c m : Nat} (hm : m = (row.take 70).length) (hc : row.length ≤ c) (hC : KInt.C wo A row.length row)
    (hb : Below w.heap.size w wz) (hg : wz.grownBy w1 fv.ownBlock) (ho : w1.ownsRow w0.heap.size TRI 1 v1 (j + 1) (us ++ [.slice A m c]))   : LessAt wo w0 v d cs (j + 1) v1 (us ++ [.slice A m c]) w1 := by
  subst hm
  have hz := h.more hb
  have hf := Fr.of_grown hg
  have hne : ∀ {k T ys}, Blk wz k T ys → T ≠ TRI → ¬ some k = fv.ownBlock := fun hx hT e2 => by
    obtain ⟨c, hc⟩ := owns_typed hz.f _ e2.symm
    exact hT ((show Blk wz _ TRI c from hc).inj hx).1.symm
  refine ⟨hz.below.trans (hf.below hz.below.size (fun k hk => (World.ownsRow.lt hz.f k hk.symm).1)), hf.blk hz.par (hne hz.par (by decide)), hf.blk hz.res (hne hz.res (by decide)), hf.blk hz.box (hne hz.box (by decide)), ho, fun i u hu => ?_, hz.old.trans (hf.below hz.old.size (fun k hk => Nat.le_trans h.lo (World.ownsRow.lt hz.f k hk.symm).1)), h.lo⟩
  have hlus : us.length = j := by have := h.f.1; omega
  rcases get_append_one hu with hu | ⟨rfl, rfl⟩
  · exact h.inn i u hu
  · exact ⟨row, A, c, by rw [hlus]; exact hrow, rfl, by have := List.length_take_le' 70 row; omega, C_take hC 70⟩

theorem less_reads {wo w0 : World} {v : WV} {d : WD} {cs : List Value} {j : Nat} {fv : Value} {us : List Value} {w : World} (h : LessAt wo w0 v d cs j fv us w) (hj : j = (d.fields.take 70).length) :
    ∃ A0 c0, fv = .slice A0 j c0 ∧ j ≤ c0 ∧ ∀ w', Below w.heap.size w w' ∨ (∀ k, fv.ownBlock = some k → w'.heap[k]? = w.heap[k]?) ∧ Below wo.heap.size wo w' → KRow.C w' A0 j ((d.fields.take 70).map (·.take 70)) := by
  obtain ⟨A0, c0, e, hr, hk⟩ := owns_slice h.f
  have hs := own_small h.f
  have hlus : us.length = j := by have := h.f.1; omega
  refine ⟨A0, c0, e, hk, fun w' hw => ⟨by simp [hj], hs, fun hn => ?_⟩⟩
  have hb0 : Below wo.heap.size wo w' := by
    rcases hw with hw | hw
    · exact h.old.trans (hw.mono h.old.size)
    · exact hw.2
  have hr' : Row1 w' A0 j us := by
    rcases hw with hw | hw
    · exact hr.below hw
    · refine ⟨hr.1, fun hn => ?_⟩
      obtain ⟨ad, hA, hc⟩ := hr.2 hn
      refine ⟨ad, hA, fun q u hu => ?_⟩
      have hblk : fv.ownBlock = some ad.block := by
        rcases h.f.2 with ⟨h1, h2⟩ | ⟨g, cap, cur, h1, _⟩
        · omega
        · rw [e, hA] at h1
          simp only [Value.slice.injEq, Option.some.injEq] at h1
          rw [e, hA, h1.1]; rfl
      have hcell := hc q u hu
      have hbk : (ad.add q).block = ad.block := by unfold Addr.add; split <;> rfl
      exact (World.cell?_of_block (by rw [hbk]; exact hw.1 _ hblk)).trans hcell
  obtain ⟨ad, hA, hc⟩ := hr'.2 hn
  refine ⟨ad, hA, fun q p hp => ?_⟩
  rw [List.getElem?_map] at hp
  obtain ⟨r, hr1, rfl⟩ := Option.map_eq_some_iff.1 hp
  have hql : q < us.length := by
    have := (List.getElem?_eq_some_iff.1 hr1).1
    rw [hlus, hj]; exact this
  have hu := List.getElem?_eq_getElem hql
  obtain ⟨r2, A, c, h1, h2, h3, h4⟩ := h.inn q us[q] hu
  have hrr : r2 = r := by
    rw [List.getElem?_take] at hr1
    split at hr1
    · rw [h1] at hr1; exact Option.some.inj hr1
    · cases hr1
  subst hrr
  refine ⟨[us[q]], rfl, ⟨A, c, by rw [h2], h3, Kd.C_below h4 hb0⟩, fun i u hu2 => ?_⟩
  cases i with
  | zero =>
    simp only [List.getElem?_cons_zero, Option.some.injEq] at hu2
    subst hu2
    have : ad.add (q * 1 + 0) = ad.add q := by rw [Nat.mul_one, Nat.add_zero]
    exact (congrArg w'.cell? this).trans (hc q _ hu)
  | succ i => simp at hu2
theorem cut_len (n : Nat) (m : Int) (h : m = (if 70 < (n : Int) then 70 else (n : Int))) : m.toNat = min 70 n ∧ 0 ≤ m ∧ m ≤ n := by rw [h]; split <;> omega
theorem res_endC {w1 : World} {g : Nat} {T : Nat} {z : List Value} (hz : z.length = 8) (hb : Blk w1 g T z) (a b c d e f n m : Value) (wz : World)
    (h : wz = (((((((w1.setCell ⟨g, 0, none⟩ a).setCell ⟨g, 1, none⟩ b).setCell ⟨g, 2, none⟩ c).setCell ⟨g, 3, none⟩ d).setCell ⟨g, 4, none⟩ e).setCell ⟨g, 5, none⟩ f).setCell ⟨g, 6, none⟩ n).setCell ⟨g, 7, none⟩ m) :
    Blk wz g T [a, b, c, d, e, f, n, m] ∧ Fr w1 wz (fun k => k = g) := by
  subst h
  match z, hz with
  | [_, _, _, _, _, _, _, _], _ =>
    exact ⟨(((((((hb.set 0 a).set 1 b).set 2 c).set 3 d).set 4 e).set 5 f).set 6 n).set 7 m,
      (((((((((Fr.refl w1 (fun k => k = g)).setCell ⟨g, 0, none⟩ a (fun _ => rfl)).setCell ⟨g, 1, none⟩ b (fun _ => rfl)).setCell ⟨g, 2, none⟩ c (fun _ => rfl)).setCell ⟨g, 3, none⟩ d (fun _ => rfl)).setCell ⟨g, 4, none⟩ e (fun _ => rfl)).setCell ⟨g, 5, none⟩ f (fun _ => rfl)).setCell ⟨g, 6, none⟩ n (fun _ => rfl)).setCell ⟨g, 7, none⟩ m (fun _ => rfl))⟩
theorem res_end5 {w1 : World} {g : Nat} {T : Nat} {a b c d e f n m : Value} (hb : Blk w1 g T [a, b, c, d, e, f, n, m]) (a' b' c' d' e' : Value) (wz : World)
    (h : wz = ((((w1.setCell ⟨g, 0, none⟩ a').setCell ⟨g, 1, none⟩ b').setCell ⟨g, 2, none⟩ c').setCell ⟨g, 3, none⟩ d').setCell ⟨g, 4, none⟩ e') :
    Blk wz g T [a', b', c', d', e', f, n, m] ∧ Fr w1 wz (fun k => k = g) := by
  subst h
  exact ⟨((((hb.set 0 a').set 1 b').set 2 c').set 3 d').set 4 e',
    (((((Fr.refl w1 (fun k => k = g)).setCell ⟨g, 0, none⟩ a' (fun _ => rfl)).setCell ⟨g, 1, none⟩ b' (fun _ => rfl)).setCell ⟨g, 2, none⟩ c' (fun _ => rfl)).setCell ⟨g, 3, none⟩ d' (fun _ => rfl)).setCell ⟨g, 4, none⟩ e' (fun _ => rfl)⟩

theorem less_last {w1 : World} {pb rb : Nat} {p0 p1 p2 p3 p4 f n m : Value} (hp : Blk w1 pb TCA [p0, p1, p2, p3, p4, f, n, m]) (hr : Blk w1 rb TCA zero8) (hne : rb ≠ pb) (a b c d e : Value) (wz : World)
    (h : wz = ((((((((((((w1.setCell ⟨pb, 0, none⟩ a).setCell ⟨pb, 1, none⟩ b).setCell ⟨pb, 2, none⟩ c).setCell ⟨pb, 3, none⟩ d).setCell ⟨pb, 4, none⟩ e).setCell ⟨rb, 0, none⟩ a).setCell ⟨rb, 1, none⟩ b).setCell ⟨rb, 2, none⟩ c).setCell ⟨rb, 3, none⟩ d).setCell ⟨rb, 4, none⟩ e).setCell ⟨rb, 5, none⟩ f).setCell ⟨rb, 6, none⟩ n).setCell ⟨rb, 7, none⟩ m) :
    Blk wz rb TCA [a, b, c, d, e, f, n, m] ∧ Fr w1 wz (fun k => k = pb ∨ k = rb) := by
  obtain ⟨h1, h2⟩ := res_end5 hp a b c d e _ rfl
  obtain ⟨h3, h4⟩ := res_endC rfl (h2.blk hr hne) a b c d e f n m wz h
  exact ⟨h3, (h2.mono (fun _ _ => .inl)).trans (h4.mono (fun _ _ => .inr)) (fun _ _ => id)⟩
theorem less_keep {wo w0 : World} {v : WV} {d : WD} {cs : List Value} {j : Nat} {fv : Value} {us : List Value} {wr wz : World} (h : LessAt wo w0 v d cs j fv us wr) (hf : Fr wr wz (fun k => k = w0.heap.size + 1 + 1 ∨ k = w0.heap.size ∨ k = w0.heap.size + 1)) :
    (∀ k, fv.ownBlock = some k → wz.heap[k]? = wr.heap[k]?) ∧ Below w0.heap.size w0 wz := by
  refine ⟨fun k hk => ?_, h.below.trans (hf.below h.below.size (fun k hk => by omega))⟩
  obtain ⟨c, hc⟩ := owns_typed h.f k hk
  have hn : ∀ {T ys}, T ≠ TRI → ¬ Blk wr k T ys := fun hT hb => hT ((show Blk wr k TRI c from hc).inj hb).1.symm
  refine hf.block k hc.lt (fun hs => ?_)
  rcases hs with rfl | rfl | rfl
  · exact hn (by decide) h.box
  · exact hn (by decide) h.par
  · exact hn (by decide) h.res
theorem less_post {wo w : World} {v : WV} {d : WD} {A : Option Addr} {c : Nat} {l' : List ActD} {N M : Int} {cs us : List Value} {A0' : Option Addr} {c0' j : Nat} {wr wz : World} (hv : v.Reads wo d) (h : LessAt wo w v d cs j (.slice A0' j c0') us wr) (hj : j = (d.fields.take 70).length) (hlc0 : j ≤ c0')
    (hC : ∀ w', Below wr.heap.size wr w' ∨ (∀ k, (Value.slice A0' j c0').ownBlock = some k → w'.heap[k]? = wr.heap[k]?) ∧ Below wo.heap.size wo w' → KRow.C w' A0' j ((d.fields.take 70).map (·.take 70)))
    (hf : Fr wr wz (fun k => k = w.heap.size + 1 + 1 ∨ k = w.heap.size ∨ k = w.heap.size + 1)) {n1 n2 m3 m4 : Nat} (h1 : n1 = (lessD d).infos.length) (h2 : n2 = (lessD d).marks.length) (h3 : m3 = min 70 d.states.length) (h4 : m4 = min 70 d.frozen.length) :
    ∃ v' : WV, Ending.returned (.agg #[.slice A0' j c0', .slice v.A1 n1 v.c1, .slice v.A2 n2 v.c2, .slice v.A3 m3 v.c3, .slice v.A4 m4 v.c4, .slice A l'.length c, .int .i64 N, .int .i64 M]) = .returned (caseV v' (lessD d) A c l' N M) ∧ (∀ w'', Below wo.heap.size wo w'' → (∀ k, w.heap.size ≤ k → k < wz.heap.size → w''.heap[k]? = wz.heap[k]?) → v'.Reads w'' (lessD d)) ∧ Below w.heap.size w wz := by
  obtain ⟨hk, hb⟩ := less_keep h hf
  have e0 : (lessD d).fields.length = j := by simp [lessD, hj]
  have e3 : (lessD d).states.length = m3 := by simp [lessD, h3]
  have e4 : (lessD d).frozen.length = m4 := by simp [lessD, h4]
  refine ⟨⟨A0', c0', v.A1, v.c1, v.A2, v.c2, v.A3, v.c3, v.A4, v.c4⟩, by simp only [caseV, e0, e3, e4, h1, h2], fun w'' hb2 hk2 => ?_, hb⟩
  have hr := hv.below hb2
  have hk3 : ∀ k, (Value.slice A0' j c0').ownBlock = some k → w''.heap[k]? = wr.heap[k]? := fun k hk0 => by
    have hlt := World.ownsRow.lt h.f k hk0
    rw [hk2 k hlt.1 (Nat.lt_of_lt_of_le hlt.2 hf.size)]
    exact hk k hk0
  refine ⟨?_, by rw [e0]; exact hlc0, ?_, ?_, ?_, ?_, C_take hr.h3 70, by have := hv.k3; have := List.length_take_le' 70 d.states; show (d.states.take 70).length ≤ v.c3; omega, CB_take hr.h4 70, by have := hv.k4; have := List.length_take_le' 70 d.frozen; show (d.frozen.take 70).length ≤ v.c4; omega⟩
  · show KRow.C w'' A0' (lessD d).fields.length (lessD d).fields
    rw [e0]
    exact hC w'' (.inr ⟨hk3, hb2⟩)
  · show KInt.C w'' v.A1 (lessD d).infos.length (lessD d).infos
    unfold lessD
    split
    · exact C_take hr.h1 70
    · exact hr.h1
  · show (lessD d).infos.length ≤ v.c1
    have := hv.k1
    unfold lessD
    split
    · have := List.length_take_le' 70 d.infos; simp only; omega
    · exact this
  · show Kd.bool.C w'' v.A2 (lessD d).marks.length (lessD d).marks
    unfold lessD
    split
    · exact CB_take hr.h2 70
    · exact hr.h2
  · show (lessD d).marks.length ≤ v.c2
    have := hv.k2
    unfold lessD
    split
    · have := List.length_take_le' 70 d.marks; simp only; omega
    · exact this
theorem csize : (Try.prog.info? TCA).map (·.size) = some 8 := by kernel_rfl

set_option maxHeartbeats 4000000 in
set_option maxRecDepth 100000 in
theorem law_less (wo w : World) (hold : Below wo.heap.size wo w) (v : WV) (d : WD) (hv : v.Reads wo d) (A : Option Addr) (c : Nat) (l : List ActD) (hlc : l.length ≤ c) (N M : Int)
    (hl : d.fields.length ≤ 1000000000000000 ∧ d.infos.length ≤ 1000000000000000 ∧ d.marks.length ≤ 1000000000000000 ∧ d.states.length ≤ 1000000000000000 ∧ d.frozen.length ≤ 1000000000000000 ∧ l.length ≤ 1000000000000000) (hr : ∀ r ∈ d.fields, r.length ≤ 1000000000000000) :
    Calls Try.prog 16 #[caseV v d A c l N M] w fun e w' => ∃ v' : WV, e = .returned (caseV v' (lessD d) A c (l.take 1100) N M) ∧ (∀ w'', Below wo.heap.size wo w'' → (∀ k, w.heap.size ≤ k → k < w'.heap.size → w''.heap[k]? = w'.heap[k]?) → v'.Reads w'' (lessD d)) ∧ Below w.heap.size w w' := by
  refine calls_hide fun Q HQ => ?_
  have HQ' := Lib.hid HQ
  have HV := Lib.hid hv
  have HOLD := Lib.hid hold
  have HR := Lib.hid hr
  have hk0 := hv.k0
  have hk1 := hv.k1
  have hk2 := hv.k2
  have hk3 := hv.k3
  have hk4 := hv.k4
  obtain ⟨l0, l1, l2, l3, l4, l5⟩ := hl
  have hcut : (if 1100 < (l.length : Int) then 1100 else (l.length : Int)).toNat = (l.take 1100).length := by simp only [List.length_take]; split <;> omega
  have HCUT := Lib.hid hcut
  clear HQ hv hr hold hcut
  go_enter Try.func16, Try.ntmps16
  go_upto_region 2 with (fail)
  rw [HCUT.out]
  generalize (if 1100 < (l.length : Int) then 1100 else (l.length : Int)) = m12 at *
  have hl6 : (l.take 1100).length ≤ 1100 := by simp; omega
  clear HCUT hlc
  generalize l.take 1100 = l' at *
  have hba := (((Below.refl w.heap.size w).alloc (Nat.le_refl _) (.cells (caseC v d A c l'.length N M).toArray TCA)).alloc (by simp) (.cells #[.slice none 0 0, .slice none 0 0, .slice none 0 0, .slice none 0 0, .slice none 0 0, .slice none 0 0, .int .i64 0, .int .i64 0] TCA)).alloc (by simp; omega) (.cells (v.cells d).toArray TRW)
  have hb1 := ((Blk.new w TCA (caseC v d A c l'.length N M)).alloc (.cells #[.slice none 0 0, .slice none 0 0, .slice none 0 0, .slice none 0 0, .slice none 0 0, .slice none 0 0, .int .i64 0, .int .i64 0] TCA)).alloc (.cells (v.cells d).toArray TRW)
  have hb2 := (Blk.new (w.alloc (.cells (caseC v d A c l'.length N M).toArray TCA)) TCA zero8).alloc (.cells (v.cells d).toArray TRW)
  have hb3 := Blk.new ((w.alloc (.cells (caseC v d A c l'.length N M).toArray TCA)).alloc (.cells zero8.toArray TCA)) TRW (v.cells d)
  simp only [World.size_alloc] at hb2 hb3
  have HAT0 := Lib.hid (show LessAt wo w v d (caseC v d A c l'.length N M) 0 (.slice none 0 0) [] (((w.alloc (.cells (caseC v d A c l'.length N M).toArray TCA)).alloc (.cells #[.slice none 0 0, .slice none 0 0, .slice none 0 0, .slice none 0 0, .slice none 0 0, .slice none 0 0, .int .i64 0, .int .i64 0] TCA)).alloc (.cells (v.cells d).toArray TRW)) from
    ⟨hba, hb1, hb2, hb3, World.ownsRow_nil _ _ _ _, fun i u h => by simp at h, HOLD.out.trans (hba.mono HOLD.out.size), HOLD.out.size⟩)
  clear hba hb1 hb2 hb3
  go_wp2
  generalize ((w.alloc (.cells (caseC v d A c l'.length N M).toArray TCA)).alloc (.cells #[.slice none 0 0, .slice none 0 0, .slice none 0 0, .slice none 0 0, .slice none 0 0, .slice none 0 0, .int .i64 0, .int .i64 0] TCA)).alloc (.cells (v.cells d).toArray TRW) = wA at *
  go_loopw [5, 4] (fun k fv wr => ∃ j : Nat, j ≤ d.fields.length ∧ j ≤ 70 ∧ k = .int .i64 j ∧ ∃ us, LessAt wo w v d (caseC v d A c l'.length N M) j fv us wr) (fun k _ _ => d.fields.length - (intOf k).toNat)
  case atStart => exact ⟨0, Nat.zero_le _, by omega, rfl, _, HAT0.out⟩
  case round =>
    clear HAT0
    obtain ⟨j, hj, hj70, rfl, us, hat⟩ := hrel
    have HAT2 := Lib.hid hat
    have hp0 : wr.cell? ⟨w.heap.size + 1 + 1, 0, none⟩ = some (.slice v.A0 d.fields.length v.c0) := hat.box.cell 0
    clear hat
    by_cases hlt : j < d.fields.length ∧ j < 70
    · obtain ⟨hlt, hlt70⟩ := hlt
      obtain ⟨ad, hA, A', c', hr0, hrc, hrow⟩ := row_at HV.out.h0 hlt
      have hrl := HR.out _ (List.getElem_mem hlt)
      obtain ⟨pb2, hpb2⟩ : ∃ pb2, pb2 = w.heap.size + 1 + 1 := ⟨_, rfl⟩
      have HR0 := Lib.hid (fun w' (hb : Below wr.drew.heap.size wr.drew w') => pw_cell_below (w := wr.drew) hb (pw_cell_below HAT2.out.old hr0))
      rw [← hpb2] at hp0 ⊢
      have HP0 := Lib.hid (fun w' (hb : Below wr.drew.heap.size wr.drew w') => pw_cell_below (w := wr.drew) hb hp0)
      have HVF := Lib.hid (owns_slice HAT2.out.f)
      obtain ⟨m7, hm7⟩ : ∃ m7 : Int, m7 = (if 70 < (d.fields[j].length : Int) then 70 else (d.fields[j].length : Int)) := ⟨_, rfl⟩
      have hm7t : m7.toNat = (d.fields[j].take 70).length := by rw [hm7, List.length_take]; split <;> omega
      have hm70 : 0 ≤ m7 := by rw [hm7]; split <;> omega
      have hm7c : m7 ≤ (c' : Int) := by rw [hm7]; split <;> omega
      have HFIN := Lib.hid (fun wz w1 v1 => less_round (wz := wz) (w1 := w1) (v1 := v1) HAT2.out (List.getElem?_eq_getElem hlt) hm7t hrc hrow)
      generalize d.fields[j] = row at *
      have HM7 := Lib.hid hm7
      have HAT := Lib.hid HAT2.out
      have HPB := Lib.hid hpb2
      obtain ⟨A0, c0, A1, c1, A2, c2, A3, c3, A4, c4⟩ := v
      simp only at hA hp0
      subst hA
      clear hr0 hrow hm7 hm7t hpb2 HAT2
      go_wp2

      refine start_ (n := 17) (S := fun _ => True) (ds := []) #[false, false, false, false, false, false, false, false, false, false, false, false, false, false, false, false, false] (by kernel_rfl) rfl rfl trivial (fun _ => ?_)
      have HBQ := Lib.hid (show ∀ w', Below wr.drew.heap.size wr.drew w' → Below wr.heap.size wr w' from fun _ h => ⟨h.os, h.tape, h.output, h.size, h.block⟩)
      generalize wr.drew = wq at *
      refine grow_region (md := .any) (w0 := wq) (B := [0, 0, 2, 0, 14, 30, 0, 64, 0, 448, 960, 1984, 4032, 8190, 16382, 32767, 65535]) [(0, 28), (1, 29), (2, 30), (3, 31), (4, 32), (5, 33), (6, 34), (7, 35), (8, 36), (9, 37), (10, 38), (11, 39), (12, 40), (13, 41), (14, 42)] [15, 16] (fun i => [].contains i) (fun i => 0) (fun i V w' => match i with
          | 0 => V 0 = u4
          | 1 => V 1 = .pointer (some ⟨pb2, 0, none⟩)
          | 2 => V 2 = .slice (some ad) d.fields.length c0
          | 3 => V 3 = .int .i64 j
          | 4 => V 4 = .pointer (some (ad.add j))
          | 5 => V 5 = .slice A' row.length c'
          | 6 => V 6 = .pointer (some ⟨pb2, 0, none⟩)
          | 7 => V 7 = .slice (some ad) d.fields.length c0
          | 8 => V 8 = .int .i64 j
          | 9 => V 9 = .pointer (some (ad.add j))
          | 10 => V 10 = .slice A' row.length c'
          | 11 => V 11 = .int .i64 row.length
          | 12 => V 12 = .int .i64 m7
          | 13 => V 13 = .slice A' m7.toNat c'
          | 14 => ∃ s, V 14 = .slice (some ⟨s, 0, none⟩) 1 1 ∧ Blk w' s TRI [.slice A' m7.toNat c']
          | _ => True) rfl (by kernel_rfl) (by kernel_rfl) (by kernel_rfl) (by kernel_rfl) (by kernel_rfl) (by kernel_rfl) (by kernel_rfl) (by kernel_rfl) ?_ ?_ ?_ ?_
      · intro e he V V' w' h hp
        simp only [List.mem_cons, List.not_mem_nil, or_false] at he
        rcases he with rfl | rfl | rfl | rfl | rfl | rfl | rfl | rfl | rfl | rfl | rfl | rfl | rfl | rfl | rfl
        · simp only [← h 0 (.inl rfl)]; exact hp
        · simp only [← h 1 (.inl rfl)]; exact hp
        · simp only [← h 2 (.inl rfl)]; exact hp
        · simp only [← h 3 (.inl rfl)]; exact hp
        · simp only [← h 4 (.inl rfl)]; exact hp
        · simp only [← h 5 (.inl rfl)]; exact hp
        · simp only [← h 6 (.inl rfl)]; exact hp
        · simp only [← h 7 (.inl rfl)]; exact hp
        · simp only [← h 8 (.inl rfl)]; exact hp
        · simp only [← h 9 (.inl rfl)]; exact hp
        · simp only [← h 10 (.inl rfl)]; exact hp
        · simp only [← h 11 (.inl rfl)]; exact hp
        · simp only [← h 12 (.inl rfl)]; exact hp
        · simp only [← h 13 (.inl rfl)]; exact hp
        · simp only [← h 14 (.inl rfl)]; exact hp
      · intro e he V w1 w2 hp hb
        simp only [List.mem_cons, List.not_mem_nil, or_false] at he
        rcases he with rfl | rfl | rfl | rfl | rfl | rfl | rfl | rfl | rfl | rfl | rfl | rfl | rfl | rfl | rfl
        · exact hp
        · exact hp
        · exact hp
        · exact hp
        · exact hp
        · exact hp
        · exact hp
        · exact hp
        · exact hp
        · exact hp
        · exact hp
        · exact hp
        · exact hp
        · exact hp
        · exact let ⟨s, h1, h2⟩ := hp; ⟨s, h1, (Fr.of_below0 (S := fun _ => False) hb).blk h2 id⟩
      · intro e he
        simp only [List.mem_cons, List.not_mem_nil, or_false] at he
        rcases he with rfl | rfl | rfl | rfl | rfl | rfl | rfl | rfl | rfl | rfl | rfl | rfl | rfl | rfl | rfl
        · intro V a w' hd ho hB
          have e4 : a.tmps[4]? = some (u4) := (ho 4 (by decide)).trans rfl
          refine ⟨_, rfl, rfl, fun K hK => ?_⟩
          clear hd ho
          refine value_ (w1 := w') (v := u4) rfl rfl ?_ (hK.out _ _ (Below.refl _ _) (setV_self _ _ _) (fun h => absurd h (by decide)))
          obtain ⟨Av, cv, xv, _, _⟩ := HVF.out
          rw [xv] at e4 ⊢
          go_simp
        · intro V a w' hd ho hB
          have e3 : a.tmps[3]? = some (.pointer (some ⟨pb2, 0, none⟩)) := (ho 3 (by decide)).trans rfl
          refine ⟨_, rfl, rfl, fun K hK => ?_⟩
          clear hd ho
          refine value_ (w1 := w') (v := .pointer (some ⟨pb2, 0, none⟩)) rfl rfl ?_ (hK.out _ _ (Below.refl _ _) (setV_self _ _ _) (fun h => absurd h (by decide)))
          go_simp
        · intro V a w' hd ho hB
          obtain ⟨e29, p29, o29⟩ := hd (1, 29) (by decide) (by kernel_rfl)
          rw [show V 1 = .pointer (some ⟨pb2, 0, none⟩) from p29] at e29
          have hc := HP0.out w' hB
          refine ⟨_, rfl, rfl, fun K hK => ?_⟩
          clear hd ho
          refine value_ (w1 := w') (v := .slice (some ad) d.fields.length c0) rfl rfl ?_ (hK.out _ _ (Below.refl _ _) (setV_self _ _ _) (fun h => absurd h (by decide)))
          go_simp
        · intro V a w' hd ho hB
          have e5 : a.tmps[5]? = some (.int .i64 j) := (ho 5 (by decide)).trans rfl
          refine ⟨_, rfl, rfl, fun K hK => ?_⟩
          clear hd ho
          refine value_ (w1 := w') (v := .int .i64 j) rfl rfl ?_ (hK.out _ _ (Below.refl _ _) (setV_self _ _ _) (fun h => absurd h (by decide)))
          go_simp
        · intro V a w' hd ho hB
          obtain ⟨e30, p30, o30⟩ := hd (2, 30) (by decide) (by kernel_rfl)
          rw [show V 2 = .slice (some ad) d.fields.length c0 from p30] at e30
          obtain ⟨e31, p31, o31⟩ := hd (3, 31) (by decide) (by kernel_rfl)
          rw [show V 3 = .int .i64 j from p31] at e31
          refine ⟨_, rfl, rfl, fun K hK => ?_⟩
          clear hd ho
          refine value_ (w1 := w') (v := .pointer (some (ad.add j))) rfl rfl ?_ (hK.out _ _ (Below.refl _ _) (setV_self _ _ _) (fun h => absurd h (by decide)))
          go_simp
        · intro V a w' hd ho hB
          obtain ⟨e32, p32, o32⟩ := hd (4, 32) (by decide) (by kernel_rfl)
          rw [show V 4 = .pointer (some (ad.add j)) from p32] at e32
          have hc := HR0.out w' hB
          refine ⟨_, rfl, rfl, fun K hK => ?_⟩
          clear hd ho
          refine value_ (w1 := w') (v := .slice A' row.length c') rfl rfl ?_ (hK.out _ _ (Below.refl _ _) (setV_self _ _ _) (fun h => absurd h (by decide)))
          go_simp
        · intro V a w' hd ho hB
          have e3 : a.tmps[3]? = some (.pointer (some ⟨pb2, 0, none⟩)) := (ho 3 (by decide)).trans rfl
          refine ⟨_, rfl, rfl, fun K hK => ?_⟩
          clear hd ho
          refine value_ (w1 := w') (v := .pointer (some ⟨pb2, 0, none⟩)) rfl rfl ?_ (hK.out _ _ (Below.refl _ _) (setV_self _ _ _) (fun h => absurd h (by decide)))
          go_simp
        · intro V a w' hd ho hB
          obtain ⟨e34, p34, o34⟩ := hd (6, 34) (by decide) (by kernel_rfl)
          rw [show V 6 = .pointer (some ⟨pb2, 0, none⟩) from p34] at e34
          have hc := HP0.out w' hB
          refine ⟨_, rfl, rfl, fun K hK => ?_⟩
          clear hd ho
          refine value_ (w1 := w') (v := .slice (some ad) d.fields.length c0) rfl rfl ?_ (hK.out _ _ (Below.refl _ _) (setV_self _ _ _) (fun h => absurd h (by decide)))
          go_simp
        · intro V a w' hd ho hB
          have e5 : a.tmps[5]? = some (.int .i64 j) := (ho 5 (by decide)).trans rfl
          refine ⟨_, rfl, rfl, fun K hK => ?_⟩
          clear hd ho
          refine value_ (w1 := w') (v := .int .i64 j) rfl rfl ?_ (hK.out _ _ (Below.refl _ _) (setV_self _ _ _) (fun h => absurd h (by decide)))
          go_simp
        · intro V a w' hd ho hB
          obtain ⟨e35, p35, o35⟩ := hd (7, 35) (by decide) (by kernel_rfl)
          rw [show V 7 = .slice (some ad) d.fields.length c0 from p35] at e35
          obtain ⟨e36, p36, o36⟩ := hd (8, 36) (by decide) (by kernel_rfl)
          rw [show V 8 = .int .i64 j from p36] at e36
          refine ⟨_, rfl, rfl, fun K hK => ?_⟩
          clear hd ho
          refine value_ (w1 := w') (v := .pointer (some (ad.add j))) rfl rfl ?_ (hK.out _ _ (Below.refl _ _) (setV_self _ _ _) (fun h => absurd h (by decide)))
          go_simp
        · intro V a w' hd ho hB
          obtain ⟨e37, p37, o37⟩ := hd (9, 37) (by decide) (by kernel_rfl)
          rw [show V 9 = .pointer (some (ad.add j)) from p37] at e37
          have hc := HR0.out w' hB
          refine ⟨_, rfl, rfl, fun K hK => ?_⟩
          clear hd ho
          refine value_ (w1 := w') (v := .slice A' row.length c') rfl rfl ?_ (hK.out _ _ (Below.refl _ _) (setV_self _ _ _) (fun h => absurd h (by decide)))
          go_simp
        · intro V a w' hd ho hB
          obtain ⟨e38, p38, o38⟩ := hd (10, 38) (by decide) (by kernel_rfl)
          rw [show V 10 = .slice A' row.length c' from p38] at e38
          refine ⟨_, rfl, rfl, fun K hK => ?_⟩
          clear hd ho
          refine value_ (w1 := w') (v := .int .i64 row.length) rfl rfl ?_ (hK.out _ _ (Below.refl _ _) (setV_self _ _ _) (fun h => absurd h (by decide)))
          go_simp
        · intro V a w' hd ho hB
          obtain ⟨e39, p39, o39⟩ := hd (11, 39) (by decide) (by kernel_rfl)
          rw [show V 11 = .int .i64 row.length from p39] at e39
          refine ⟨_, rfl, rfl, fun K hK => ?_⟩
          clear hd ho
          refine value_ (w1 := w') (v := .int .i64 m7) rfl rfl ?_ (hK.out _ _ (Below.refl _ _) (setV_self _ _ _) (fun h => absurd h (by decide)))
          rw [HM7.out]
          go_simp
        · intro V a w' hd ho hB
          obtain ⟨e33, p33, o33⟩ := hd (5, 33) (by decide) (by kernel_rfl)
          rw [show V 5 = .slice A' row.length c' from p33] at e33
          obtain ⟨e40, p40, o40⟩ := hd (12, 40) (by decide) (by kernel_rfl)
          rw [show V 12 = .int .i64 m7 from p40] at e40
          refine ⟨_, rfl, rfl, fun K hK => ?_⟩
          clear hd ho
          refine value_ (w1 := w') (v := .slice A' m7.toNat c') rfl rfl ?_ (hK.out _ _ (Below.refl _ _) (setV_self _ _ _) (fun h => absurd h (by decide)))
          go_simp
        · intro V a w' hd ho hB
          obtain ⟨e41, p41, o41⟩ := hd (13, 41) (by decide) (by kernel_rfl)
          rw [show V 13 = .slice A' m7.toNat c' from p41] at e41
          refine ⟨_, rfl, rfl, fun K hK => ?_⟩
          refine value_ (w1 := w'.alloc (.cells #[.slice A' m7.toNat c'] TRI)) (v := .slice (some ⟨w'.heap.size, 0, none⟩) 1 1) rfl rfl ?_ (hK.out _ _ ((Below.refl _ _).alloc (Nat.le_refl _) _) ⟨w'.heap.size, setV_self _ _ _, Blk.new w' TRI [.slice A' m7.toNat c']⟩ (fun h => absurd h (by decide)))
          clear hd ho hK
          go_simp
      · intro V a w' hfr hB hP hap hlt
        have P0 := hP (0, 28) (by decide)
        have P1 := hP (1, 29) (by decide)
        have P2 := hP (2, 30) (by decide)
        have P3 := hP (3, 31) (by decide)
        have P4 := hP (4, 32) (by decide)
        have P5 := hP (5, 33) (by decide)
        have P6 := hP (6, 34) (by decide)
        have P7 := hP (7, 35) (by decide)
        have P8 := hP (8, 36) (by decide)
        have P9 := hP (9, 37) (by decide)
        have P10 := hP (10, 38) (by decide)
        have P11 := hP (11, 39) (by decide)
        have P12 := hP (12, 40) (by decide)
        have P13 := hP (13, 41) (by decide)
        have P14 := hP (14, 42) (by decide)
        clear hP
        obtain ⟨s, hs, hsb⟩ := P14
        have hbr := HBQ.out _ hB
        have hz := HAT.out.more hbr
        obtain ⟨i0, hi, hz0, hz1, hz2⟩ := info_parts pinfo_row
        obtain ⟨v1, w1, hrun, hown, hgrow, _, _⟩ := run_append_own_at (P := Try.prog) w' w.heap.size 22 22 TRI i0 (.slice none 0 0) 1 24 Try.underlying22 hi hz0 hz1 hz2 rfl (by decide) u4 j us hz.f ⟨s, 0, none⟩ 1 1 [.slice A' m7.toNat c'] rfl (fun q u hq => by rw [Go.Proofs.YtphhdmopfmelbaaW.PrintWords.add_plain]; exact (hsb.cell q).trans hq) (by intro u hu; simp only [List.mem_singleton] at hu; subst hu; rfl) (by simp only [maxLen]; omega) (by omega) hz.below.size
        have HN := Lib.hid (HFIN.out w' w1 v1 hbr hgrow hown)
        obtain ⟨A9, c9, x9, _, _⟩ := owns_slice hown
        subst hfr
        simp only [vrows, List.map_cons, List.map_nil, putSel, if_true, Act.put, List.setIfInBounds_toArray, List.set_cons_zero, List.set_cons_succ]
        refine seq_value v1 rfl rfl rfl (append_exec rfl (eval_of (by exact congrArg some P0)) (eval_of (by exact congrArg some hs)) hrun) ?_
        simp only [Act.put, List.setIfInBounds_toArray, List.set_cons_zero, List.set_cons_succ]
        refine seq_value (w1 := w1) v1 rfl rfl rfl ?_ ?_
        · clear hrun hown hgrow hz HN; rw [x9]; go_simp
        simp only [Act.put, List.setIfInBounds_toArray, List.set_cons_zero, List.set_cons_succ]
        clear hrun hown hgrow hz hbr hap x9 hs hsb hB P0 P1 P2 P3 P4 P5 P6 P7 P8 P9 P10 P11 P12 P13 HAT HBQ HP0 HR0 HFIN HM7 HVF
        refine seq_nil ?_
        go_wp2
        go_roundw
        case rel => exact ⟨j + 1, by omega, by omega, by go_num, _, HN.out⟩
        case measure => simp [intOf]; omega
    · by_cases hcut : 70 < d.fields.length
      · have h70 : 70 ≤ j := by omega
        have hjl : j = (d.fields.take 70).length := by simp; omega
        obtain ⟨A0', c0', hfv, hlc0, hC0⟩ := less_reads HAT2.out hjl
        have HC0 := Lib.hid hC0
        have HJL := Lib.hid hjl
        have HLT := Lib.hid HAT2.out
        clear hC0 hjl HAT2
        subst hfv
        obtain ⟨pb2, hpb2⟩ : ∃ pb2, pb2 = w.heap.size + 1 + 1 := ⟨_, rfl⟩
        rw [← hpb2] at hp0 ⊢
        have HBW := Lib.hid (show Blk wr pb2 TRW (v.cells d) by rw [hpb2]; exact HLT.out.box)
        have HPB := Lib.hid hpb2
        clear hpb2
        have hz0 := HBW.out.free ⟨pb2, 0, none⟩ rfl
        obtain ⟨m1, hm1⟩ : ∃ m : Int, m = (if 70 < (d.infos.length : Int) then 70 else (d.infos.length : Int)) := ⟨_, rfl⟩
        obtain ⟨hm11, hm12, hm13⟩ := cut_len _ _ hm1
        have hm14 : m1 ≤ (v.c1 : Int) := by omega
        have HM1 := Lib.hid hm1
        have HMT1 := Lib.hid hm11
        clear hm1 hm11 hm13
        obtain ⟨m2, hm2⟩ : ∃ m : Int, m = (if 70 < (d.marks.length : Int) then 70 else (d.marks.length : Int)) := ⟨_, rfl⟩
        obtain ⟨hm21, hm22, hm23⟩ := cut_len _ _ hm2
        have hm24 : m2 ≤ (v.c2 : Int) := by omega
        have HM2 := Lib.hid hm2
        have HMT2 := Lib.hid hm21
        clear hm2 hm21 hm23
        obtain ⟨m3, hm3⟩ : ∃ m : Int, m = (if 70 < (d.states.length : Int) then 70 else (d.states.length : Int)) := ⟨_, rfl⟩
        obtain ⟨hm31, hm32, hm33⟩ := cut_len _ _ hm3
        have hm34 : m3 ≤ (v.c3 : Int) := by omega
        have HM3 := Lib.hid hm3
        have HMT3 := Lib.hid hm31
        clear hm3 hm31 hm33
        obtain ⟨m4, hm4⟩ : ∃ m : Int, m = (if 70 < (d.frozen.length : Int) then 70 else (d.frozen.length : Int)) := ⟨_, rfl⟩
        obtain ⟨hm41, hm42, hm43⟩ := cut_len _ _ hm4
        have hm44 : m4 ≤ (v.c4 : Int) := by omega
        have HM4 := Lib.hid hm4
        have HMT4 := Lib.hid hm41
        clear hm4 hm41 hm43
        go_wp2
        have HBX := Lib.hid (show Blk (wr.setCell ⟨pb2, 0, none⟩ (.slice A0' j c0')) pb2 TRW [.slice A0' j c0', .slice v.A1 d.infos.length v.c1, .slice v.A2 d.marks.length v.c2, .slice v.A3 d.states.length v.c3, .slice v.A4 d.frozen.length v.c4] from HBW.out.set 0 (.slice A0' j c0'))
        have HFR := Lib.hid (show Fr wr (wr.setCell ⟨pb2, 0, none⟩ (.slice A0' j c0')) (fun k => k = pb2) from (Fr.refl wr _).setCell _ _ (fun _ => rfl))
        generalize wr.setCell ⟨pb2, 0, none⟩ (.slice A0' j c0') = wX at *
        clear HBW hp0 hz0
        refine start_ (n := 18) (S := fun w' => w'.cell? ⟨pb2, 1, none⟩ = some (.slice v.A1 d.infos.length v.c1) ∧ w'.cell? ⟨pb2, 2, none⟩ = some (.slice v.A2 d.marks.length v.c2)) (ds := [15, 17]) #[false, false, false, false, false, false, false, false, false, false, false, false, false, false, false, false, false, false] (by kernel_rfl) rfl rfl ⟨HBX.out.cell 1, HBX.out.cell 2⟩ (fun hHeld => ?_)
        have HBQ := Lib.hid (show Blk wX.drew pb2 TRW [.slice A0' j c0', .slice v.A1 d.infos.length v.c1, .slice v.A2 d.marks.length v.c2, .slice v.A3 d.states.length v.c3, .slice v.A4 d.frozen.length v.c4] from HBX.out)
        have HST1 := Lib.hid (run_store_run (P := Try.prog) (w := wX.drew) (g := pb2) (o := 1) 23 (.slice v.A1 m1.toNat v.c1) [.slice v.A1 m1.toNat v.c1] HBQ.out rfl (by kernel_rfl) (by simp) (by intro q hq; simp only [List.mem_singleton] at hq; subst hq; rfl))
        have HB1 := Lib.hid (show Blk (wX.drew.setCells pb2 1 [.slice v.A1 m1.toNat v.c1]) pb2 TRW [.slice A0' j c0', .slice v.A1 m1.toNat v.c1, .slice v.A2 d.marks.length v.c2, .slice v.A3 d.states.length v.c3, .slice v.A4 d.frozen.length v.c4] from HBQ.out.set 1 (.slice v.A1 m1.toNat v.c1))
        have HST2 := Lib.hid (run_store_run (P := Try.prog) (w := wX.drew.setCells pb2 1 [.slice v.A1 m1.toNat v.c1]) (g := pb2) (o := 2) 24 (.slice v.A2 m2.toNat v.c2) [.slice v.A2 m2.toNat v.c2] HB1.out rfl (by kernel_rfl) (by simp) (by intro q hq; simp only [List.mem_singleton] at hq; subst hq; rfl))
        have HB2 := Lib.hid (show Blk ((wX.drew.setCells pb2 1 [.slice v.A1 m1.toNat v.c1]).setCells pb2 2 [.slice v.A2 m2.toNat v.c2]) pb2 TRW [.slice A0' j c0', .slice v.A1 m1.toNat v.c1, .slice v.A2 m2.toNat v.c2, .slice v.A3 d.states.length v.c3, .slice v.A4 d.frozen.length v.c4] from HB1.out.set 2 (.slice v.A2 m2.toNat v.c2))
        have HFR2 := Lib.hid (show Fr wr ((wX.drew.setCells pb2 1 [.slice v.A1 m1.toNat v.c1]).setCells pb2 2 [.slice v.A2 m2.toNat v.c2]) (fun k => k = pb2) from ((HFR.out.drew).setCell ⟨pb2, 1, none⟩ (.slice v.A1 m1.toNat v.c1) (fun _ => rfl)).setCell ⟨pb2, 2, none⟩ (.slice v.A2 m2.toNat v.c2) (fun _ => rfl))
        refine pure_ (i := 0) (N := some 51) (v := ?_) (a' := ?_) #[true, false, false, false, false, false, false, false, false, false, false, false, false, false, false, false, false, false] rfl rfl (by kernel_rfl) (fun _ _ _ h => h) (Or.inl ⟨by rfl, ?_⟩) ?_ ?_
        rotate_left
        · intro w'
          go_simp
          with_reducible rfl
        rotate_left
        · simp only [Act.put, List.setIfInBounds_toArray, List.set_cons_zero, List.set_cons_succ]
          rfl
        refine take_ (i := 1) (N := some 52) (v := ?_) (a' := ?_) #[true, true, false, false, false, false, false, false, false, false, false, false, false, false, false, false, false, false] rfl rfl (by kernel_rfl) (fun _ _ _ h => h) (Or.inl ⟨by rfl, ?_⟩) hHeld ?_ ?_
        rotate_left
        · rintro w' ⟨s0, s1⟩
          go_simp
          with_reducible rfl
        rotate_left
        · simp only [Act.put, List.setIfInBounds_toArray, List.set_cons_zero, List.set_cons_succ]
          rfl
        refine pure_ (i := 2) (N := some 53) (v := ?_) (a' := ?_) #[true, true, true, false, false, false, false, false, false, false, false, false, false, false, false, false, false, false] rfl rfl (by kernel_rfl) (fun _ _ _ h => h) (Or.inl ⟨by rfl, ?_⟩) ?_ ?_
        rotate_left
        · intro w'
          go_simp
          with_reducible rfl
        rotate_left
        · simp only [Act.put, List.setIfInBounds_toArray, List.set_cons_zero, List.set_cons_succ]
          rfl
        refine take_ (i := 3) (N := some 54) (v := ?_) (a' := ?_) #[true, true, true, true, false, false, false, false, false, false, false, false, false, false, false, false, false, false] rfl rfl (by kernel_rfl) (fun _ _ _ h => h) (Or.inl ⟨by rfl, ?_⟩) hHeld ?_ ?_
        rotate_left
        · rintro w' ⟨s0, s1⟩
          go_simp
          with_reducible rfl
        rotate_left
        · simp only [Act.put, List.setIfInBounds_toArray, List.set_cons_zero, List.set_cons_succ]
          rfl
        refine pure_ (i := 4) (N := some 55) (v := ?_) (a' := ?_) #[true, true, true, true, true, false, false, false, false, false, false, false, false, false, false, false, false, false] rfl rfl (by kernel_rfl) (fun _ _ _ h => h) (Or.inl ⟨by rfl, ?_⟩) ?_ ?_
        rotate_left
        · intro w'
          go_simp
          with_reducible rfl
        rotate_left
        · simp only [Act.put, List.setIfInBounds_toArray, List.set_cons_zero, List.set_cons_succ]
          rfl
        refine pure_ (i := 5) (N := some 56) (v := .int .i64 m1) (a' := ?_) #[true, true, true, true, true, true, false, false, false, false, false, false, false, false, false, false, false, false] rfl rfl (by kernel_rfl) (fun _ _ _ h => h) (Or.inl ⟨by rfl, ?_⟩) ?_ ?_
        · intro w'
          rw [HM1.out]
          go_simp
        rotate_left
        · simp only [Act.put, List.setIfInBounds_toArray, List.set_cons_zero, List.set_cons_succ]
          rfl
        refine pure_ (i := 6) (N := some 57) (v := ?_) (a' := ?_) #[true, true, true, true, true, true, true, false, false, false, false, false, false, false, false, false, false, false] rfl rfl (by kernel_rfl) (fun _ _ _ h => h) (Or.inl ⟨by rfl, ?_⟩) ?_ ?_
        rotate_left
        · intro w'
          go_simp
          with_reducible rfl
        rotate_left
        · simp only [Act.put, List.setIfInBounds_toArray, List.set_cons_zero, List.set_cons_succ]
          rfl
        refine pure_ (i := 7) (N := some 58) (v := ?_) (a' := ?_) #[true, true, true, true, true, true, true, true, false, false, false, false, false, false, false, false, false, false] rfl rfl (by kernel_rfl) (fun _ _ _ h => h) (Or.inl ⟨by rfl, ?_⟩) ?_ ?_
        rotate_left
        · intro w'
          go_simp
          with_reducible rfl
        rotate_left
        · simp only [Act.put, List.setIfInBounds_toArray, List.set_cons_zero, List.set_cons_succ]
          rfl
        refine take_ (i := 8) (N := some 59) (v := ?_) (a' := ?_) #[true, true, true, true, true, true, true, true, true, false, false, false, false, false, false, false, false, false] rfl rfl (by kernel_rfl) (fun _ _ _ h => h) (Or.inl ⟨by rfl, ?_⟩) hHeld ?_ ?_
        rotate_left
        · rintro w' ⟨s0, s1⟩
          go_simp
          with_reducible rfl
        rotate_left
        · simp only [Act.put, List.setIfInBounds_toArray, List.set_cons_zero, List.set_cons_succ]
          rfl
        refine pure_ (i := 9) (N := some 60) (v := ?_) (a' := ?_) #[true, true, true, true, true, true, true, true, true, true, false, false, false, false, false, false, false, false] rfl rfl (by kernel_rfl) (fun _ _ _ h => h) (Or.inl ⟨by rfl, ?_⟩) ?_ ?_
        rotate_left
        · intro w'
          go_simp
          with_reducible rfl
        rotate_left
        · simp only [Act.put, List.setIfInBounds_toArray, List.set_cons_zero, List.set_cons_succ]
          rfl
        refine take_ (i := 10) (N := some 61) (v := ?_) (a' := ?_) #[true, true, true, true, true, true, true, true, true, true, true, false, false, false, false, false, false, false] rfl rfl (by kernel_rfl) (fun _ _ _ h => h) (Or.inl ⟨by rfl, ?_⟩) hHeld ?_ ?_
        rotate_left
        · rintro w' ⟨s0, s1⟩
          go_simp
          with_reducible rfl
        rotate_left
        · simp only [Act.put, List.setIfInBounds_toArray, List.set_cons_zero, List.set_cons_succ]
          rfl
        refine pure_ (i := 11) (N := some 62) (v := ?_) (a' := ?_) #[true, true, true, true, true, true, true, true, true, true, true, true, false, false, false, false, false, false] rfl rfl (by kernel_rfl) (fun _ _ _ h => h) (Or.inl ⟨by rfl, ?_⟩) ?_ ?_
        rotate_left
        · intro w'
          go_simp
          with_reducible rfl
        rotate_left
        · simp only [Act.put, List.setIfInBounds_toArray, List.set_cons_zero, List.set_cons_succ]
          rfl
        refine pure_ (i := 12) (N := some 63) (v := .int .i64 m2) (a' := ?_) #[true, true, true, true, true, true, true, true, true, true, true, true, true, false, false, false, false, false] rfl rfl (by kernel_rfl) (fun _ _ _ h => h) (Or.inl ⟨by rfl, ?_⟩) ?_ ?_
        · intro w'
          rw [HM2.out]
          go_simp
        rotate_left
        · simp only [Act.put, List.setIfInBounds_toArray, List.set_cons_zero, List.set_cons_succ]
          rfl
        refine pure_ (i := 13) (N := some 64) (v := ?_) (a' := ?_) #[true, true, true, true, true, true, true, true, true, true, true, true, true, true, false, false, false, false] rfl rfl (by kernel_rfl) (fun _ _ _ h => h) (Or.inl ⟨by rfl, ?_⟩) ?_ ?_
        rotate_left
        · intro w'
          go_simp
          with_reducible rfl
        rotate_left
        · simp only [Act.put, List.setIfInBounds_toArray, List.set_cons_zero, List.set_cons_succ]
          rfl
        refine pure_ (i := 14) (N := some 65) (v := ?_) (a' := ?_) #[true, true, true, true, true, true, true, true, true, true, true, true, true, true, true, false, false, false] rfl rfl (by kernel_rfl) (fun _ _ _ h => h) (Or.inl ⟨by rfl, ?_⟩) ?_ ?_
        rotate_left
        · intro w'
          go_simp
          with_reducible rfl
        rotate_left
        · simp only [Act.put, List.setIfInBounds_toArray, List.set_cons_zero, List.set_cons_succ]
          rfl
        refine last_ (i := 15) (N := none) #[true, true, true, true, true, true, true, true, true, true, true, true, true, true, true, true, false, false] rfl rfl (by kernel_rfl) (by decide) (fun K hK => ?_)
        refine skip_ (by rfl) rfl (store_exec rfl (eval_of rfl) (eval_of rfl) HST1.out) (hK.out _ _ ?_)
        clear hK
        refine pure_ (i := 16) (N := some 66) (v := ?_) (a' := ?_) #[true, true, true, true, true, true, true, true, true, true, true, true, true, true, true, true, true, false] rfl rfl (by kernel_rfl) (fun _ _ _ h => h) (Or.inl ⟨by rfl, ?_⟩) ?_ ?_
        rotate_left
        · intro w'
          go_simp
          with_reducible rfl
        rotate_left
        · simp only [Act.put, List.setIfInBounds_toArray, List.set_cons_zero, List.set_cons_succ]
          rfl
        refine last_ (i := 17) (N := none) #[true, true, true, true, true, true, true, true, true, true, true, true, true, true, true, true, true, true] rfl rfl (by kernel_rfl) (by decide) (fun K hK => ?_)
        refine skip_ (by rfl) rfl (store_exec rfl (eval_of rfl) (eval_of rfl) HST2.out) (hK.out _ _ ?_)
        clear hK
        refine done_ (by kernel_rfl) ?_
        generalize (wX.drew.setCells pb2 1 [.slice v.A1 m1.toNat v.c1]).setCells pb2 2 [.slice v.A2 m2.toNat v.c2] = wY at *
        clear hHeld HBX HBQ HB1 HST1 HST2 HFR
        have HBX := Lib.hid HB2.out
        have HFR := Lib.hid HFR2.out
        clear HB2 HFR2
        go_wp2
        refine start_ (n := 18) (S := fun w' => w'.cell? ⟨pb2, 3, none⟩ = some (.slice v.A3 d.states.length v.c3) ∧ w'.cell? ⟨pb2, 4, none⟩ = some (.slice v.A4 d.frozen.length v.c4)) (ds := [15, 17]) #[false, false, false, false, false, false, false, false, false, false, false, false, false, false, false, false, false, false] (by kernel_rfl) rfl rfl ⟨HBX.out.cell 3, HBX.out.cell 4⟩ (fun hHeld => ?_)
        have HBQ := Lib.hid (show Blk wY.drew pb2 TRW [.slice A0' j c0', .slice v.A1 m1.toNat v.c1, .slice v.A2 m2.toNat v.c2, .slice v.A3 d.states.length v.c3, .slice v.A4 d.frozen.length v.c4] from HBX.out)
        have HST1 := Lib.hid (run_store_run (P := Try.prog) (w := wY.drew) (g := pb2) (o := 3) 23 (.slice v.A3 m3.toNat v.c3) [.slice v.A3 m3.toNat v.c3] HBQ.out rfl (by kernel_rfl) (by simp) (by intro q hq; simp only [List.mem_singleton] at hq; subst hq; rfl))
        have HB1 := Lib.hid (show Blk (wY.drew.setCells pb2 3 [.slice v.A3 m3.toNat v.c3]) pb2 TRW [.slice A0' j c0', .slice v.A1 m1.toNat v.c1, .slice v.A2 m2.toNat v.c2, .slice v.A3 m3.toNat v.c3, .slice v.A4 d.frozen.length v.c4] from HBQ.out.set 3 (.slice v.A3 m3.toNat v.c3))
        have HST2 := Lib.hid (run_store_run (P := Try.prog) (w := wY.drew.setCells pb2 3 [.slice v.A3 m3.toNat v.c3]) (g := pb2) (o := 4) 24 (.slice v.A4 m4.toNat v.c4) [.slice v.A4 m4.toNat v.c4] HB1.out rfl (by kernel_rfl) (by simp) (by intro q hq; simp only [List.mem_singleton] at hq; subst hq; rfl))
        have HB2 := Lib.hid (show Blk ((wY.drew.setCells pb2 3 [.slice v.A3 m3.toNat v.c3]).setCells pb2 4 [.slice v.A4 m4.toNat v.c4]) pb2 TRW [.slice A0' j c0', .slice v.A1 m1.toNat v.c1, .slice v.A2 m2.toNat v.c2, .slice v.A3 m3.toNat v.c3, .slice v.A4 m4.toNat v.c4] from HB1.out.set 4 (.slice v.A4 m4.toNat v.c4))
        have HFR2 := Lib.hid (show Fr wr ((wY.drew.setCells pb2 3 [.slice v.A3 m3.toNat v.c3]).setCells pb2 4 [.slice v.A4 m4.toNat v.c4]) (fun k => k = pb2) from ((HFR.out.drew).setCell ⟨pb2, 3, none⟩ (.slice v.A3 m3.toNat v.c3) (fun _ => rfl)).setCell ⟨pb2, 4, none⟩ (.slice v.A4 m4.toNat v.c4) (fun _ => rfl))
        refine pure_ (i := 0) (N := some 67) (v := ?_) (a' := ?_) #[true, false, false, false, false, false, false, false, false, false, false, false, false, false, false, false, false, false] rfl rfl (by kernel_rfl) (fun _ _ _ h => h) (Or.inl ⟨by rfl, ?_⟩) ?_ ?_
        rotate_left
        · intro w'
          go_simp
          with_reducible rfl
        rotate_left
        · simp only [Act.put, List.setIfInBounds_toArray, List.set_cons_zero, List.set_cons_succ]
          rfl
        refine take_ (i := 1) (N := some 68) (v := ?_) (a' := ?_) #[true, true, false, false, false, false, false, false, false, false, false, false, false, false, false, false, false, false] rfl rfl (by kernel_rfl) (fun _ _ _ h => h) (Or.inl ⟨by rfl, ?_⟩) hHeld ?_ ?_
        rotate_left
        · rintro w' ⟨s0, s1⟩
          go_simp
          with_reducible rfl
        rotate_left
        · simp only [Act.put, List.setIfInBounds_toArray, List.set_cons_zero, List.set_cons_succ]
          rfl
        refine pure_ (i := 2) (N := some 69) (v := ?_) (a' := ?_) #[true, true, true, false, false, false, false, false, false, false, false, false, false, false, false, false, false, false] rfl rfl (by kernel_rfl) (fun _ _ _ h => h) (Or.inl ⟨by rfl, ?_⟩) ?_ ?_
        rotate_left
        · intro w'
          go_simp
          with_reducible rfl
        rotate_left
        · simp only [Act.put, List.setIfInBounds_toArray, List.set_cons_zero, List.set_cons_succ]
          rfl
        refine take_ (i := 3) (N := some 70) (v := ?_) (a' := ?_) #[true, true, true, true, false, false, false, false, false, false, false, false, false, false, false, false, false, false] rfl rfl (by kernel_rfl) (fun _ _ _ h => h) (Or.inl ⟨by rfl, ?_⟩) hHeld ?_ ?_
        rotate_left
        · rintro w' ⟨s0, s1⟩
          go_simp
          with_reducible rfl
        rotate_left
        · simp only [Act.put, List.setIfInBounds_toArray, List.set_cons_zero, List.set_cons_succ]
          rfl
        refine pure_ (i := 4) (N := some 71) (v := ?_) (a' := ?_) #[true, true, true, true, true, false, false, false, false, false, false, false, false, false, false, false, false, false] rfl rfl (by kernel_rfl) (fun _ _ _ h => h) (Or.inl ⟨by rfl, ?_⟩) ?_ ?_
        rotate_left
        · intro w'
          go_simp
          with_reducible rfl
        rotate_left
        · simp only [Act.put, List.setIfInBounds_toArray, List.set_cons_zero, List.set_cons_succ]
          rfl
        refine pure_ (i := 5) (N := some 72) (v := .int .i64 m3) (a' := ?_) #[true, true, true, true, true, true, false, false, false, false, false, false, false, false, false, false, false, false] rfl rfl (by kernel_rfl) (fun _ _ _ h => h) (Or.inl ⟨by rfl, ?_⟩) ?_ ?_
        · intro w'
          rw [HM3.out]
          go_simp
        rotate_left
        · simp only [Act.put, List.setIfInBounds_toArray, List.set_cons_zero, List.set_cons_succ]
          rfl
        refine pure_ (i := 6) (N := some 73) (v := ?_) (a' := ?_) #[true, true, true, true, true, true, true, false, false, false, false, false, false, false, false, false, false, false] rfl rfl (by kernel_rfl) (fun _ _ _ h => h) (Or.inl ⟨by rfl, ?_⟩) ?_ ?_
        rotate_left
        · intro w'
          go_simp
          with_reducible rfl
        rotate_left
        · simp only [Act.put, List.setIfInBounds_toArray, List.set_cons_zero, List.set_cons_succ]
          rfl
        refine pure_ (i := 7) (N := some 74) (v := ?_) (a' := ?_) #[true, true, true, true, true, true, true, true, false, false, false, false, false, false, false, false, false, false] rfl rfl (by kernel_rfl) (fun _ _ _ h => h) (Or.inl ⟨by rfl, ?_⟩) ?_ ?_
        rotate_left
        · intro w'
          go_simp
          with_reducible rfl
        rotate_left
        · simp only [Act.put, List.setIfInBounds_toArray, List.set_cons_zero, List.set_cons_succ]
          rfl
        refine take_ (i := 8) (N := some 75) (v := ?_) (a' := ?_) #[true, true, true, true, true, true, true, true, true, false, false, false, false, false, false, false, false, false] rfl rfl (by kernel_rfl) (fun _ _ _ h => h) (Or.inl ⟨by rfl, ?_⟩) hHeld ?_ ?_
        rotate_left
        · rintro w' ⟨s0, s1⟩
          go_simp
          with_reducible rfl
        rotate_left
        · simp only [Act.put, List.setIfInBounds_toArray, List.set_cons_zero, List.set_cons_succ]
          rfl
        refine pure_ (i := 9) (N := some 76) (v := ?_) (a' := ?_) #[true, true, true, true, true, true, true, true, true, true, false, false, false, false, false, false, false, false] rfl rfl (by kernel_rfl) (fun _ _ _ h => h) (Or.inl ⟨by rfl, ?_⟩) ?_ ?_
        rotate_left
        · intro w'
          go_simp
          with_reducible rfl
        rotate_left
        · simp only [Act.put, List.setIfInBounds_toArray, List.set_cons_zero, List.set_cons_succ]
          rfl
        refine take_ (i := 10) (N := some 77) (v := ?_) (a' := ?_) #[true, true, true, true, true, true, true, true, true, true, true, false, false, false, false, false, false, false] rfl rfl (by kernel_rfl) (fun _ _ _ h => h) (Or.inl ⟨by rfl, ?_⟩) hHeld ?_ ?_
        rotate_left
        · rintro w' ⟨s0, s1⟩
          go_simp
          with_reducible rfl
        rotate_left
        · simp only [Act.put, List.setIfInBounds_toArray, List.set_cons_zero, List.set_cons_succ]
          rfl
        refine pure_ (i := 11) (N := some 78) (v := ?_) (a' := ?_) #[true, true, true, true, true, true, true, true, true, true, true, true, false, false, false, false, false, false] rfl rfl (by kernel_rfl) (fun _ _ _ h => h) (Or.inl ⟨by rfl, ?_⟩) ?_ ?_
        rotate_left
        · intro w'
          go_simp
          with_reducible rfl
        rotate_left
        · simp only [Act.put, List.setIfInBounds_toArray, List.set_cons_zero, List.set_cons_succ]
          rfl
        refine pure_ (i := 12) (N := some 79) (v := .int .i64 m4) (a' := ?_) #[true, true, true, true, true, true, true, true, true, true, true, true, true, false, false, false, false, false] rfl rfl (by kernel_rfl) (fun _ _ _ h => h) (Or.inl ⟨by rfl, ?_⟩) ?_ ?_
        · intro w'
          rw [HM4.out]
          go_simp
        rotate_left
        · simp only [Act.put, List.setIfInBounds_toArray, List.set_cons_zero, List.set_cons_succ]
          rfl
        refine pure_ (i := 13) (N := some 80) (v := ?_) (a' := ?_) #[true, true, true, true, true, true, true, true, true, true, true, true, true, true, false, false, false, false] rfl rfl (by kernel_rfl) (fun _ _ _ h => h) (Or.inl ⟨by rfl, ?_⟩) ?_ ?_
        rotate_left
        · intro w'
          go_simp
          with_reducible rfl
        rotate_left
        · simp only [Act.put, List.setIfInBounds_toArray, List.set_cons_zero, List.set_cons_succ]
          rfl
        refine pure_ (i := 14) (N := some 81) (v := ?_) (a' := ?_) #[true, true, true, true, true, true, true, true, true, true, true, true, true, true, true, false, false, false] rfl rfl (by kernel_rfl) (fun _ _ _ h => h) (Or.inl ⟨by rfl, ?_⟩) ?_ ?_
        rotate_left
        · intro w'
          go_simp
          with_reducible rfl
        rotate_left
        · simp only [Act.put, List.setIfInBounds_toArray, List.set_cons_zero, List.set_cons_succ]
          rfl
        refine last_ (i := 15) (N := none) #[true, true, true, true, true, true, true, true, true, true, true, true, true, true, true, true, false, false] rfl rfl (by kernel_rfl) (by decide) (fun K hK => ?_)
        refine skip_ (by rfl) rfl (store_exec rfl (eval_of rfl) (eval_of rfl) HST1.out) (hK.out _ _ ?_)
        clear hK
        refine pure_ (i := 16) (N := some 82) (v := ?_) (a' := ?_) #[true, true, true, true, true, true, true, true, true, true, true, true, true, true, true, true, true, false] rfl rfl (by kernel_rfl) (fun _ _ _ h => h) (Or.inl ⟨by rfl, ?_⟩) ?_ ?_
        rotate_left
        · intro w'
          go_simp
          with_reducible rfl
        rotate_left
        · simp only [Act.put, List.setIfInBounds_toArray, List.set_cons_zero, List.set_cons_succ]
          rfl
        refine last_ (i := 17) (N := none) #[true, true, true, true, true, true, true, true, true, true, true, true, true, true, true, true, true, true] rfl rfl (by kernel_rfl) (by decide) (fun K hK => ?_)
        refine skip_ (by rfl) rfl (store_exec rfl (eval_of rfl) (eval_of rfl) HST2.out) (hK.out _ _ ?_)
        clear hK
        refine done_ (by kernel_rfl) ?_
        generalize (wY.drew.setCells pb2 3 [.slice v.A3 m3.toNat v.c3]).setCells pb2 4 [.slice v.A4 m4.toNat v.c4] = wZ at *
        clear hHeld HBX HBQ HB1 HST1 HST2 HFR
        have HBX := Lib.hid HB2.out
        have HFR := Lib.hid HFR2.out
        clear HB2 HFR2
        have hb0 := HBX.out.cell 0
        have hb1 := HBX.out.cell 1
        have hb2 := HBX.out.cell 2
        have hb3 := HBX.out.cell 3
        have hb4 := HBX.out.cell 4
        have hpar := HFR.out.blk HLT.out.par (fun e => by have := HPB.out; omega)
        have hres := HFR.out.blk HLT.out.res (fun e => by have := HPB.out; omega)
        have hq0 := hpar.cell 0
        have hr0 := hres.cell 0
        have hf0 := hpar.free ⟨w.heap.size, 0, none⟩ rfl
        have hg0 := hres.free ⟨w.heap.size + 1, 0, none⟩ rfl
        have hq1 := hpar.cell 1
        have hr1 := hres.cell 1
        have hf1 := hpar.free ⟨w.heap.size, 1, none⟩ rfl
        have hg1 := hres.free ⟨w.heap.size + 1, 1, none⟩ rfl
        have hq2 := hpar.cell 2
        have hr2 := hres.cell 2
        have hf2 := hpar.free ⟨w.heap.size, 2, none⟩ rfl
        have hg2 := hres.free ⟨w.heap.size + 1, 2, none⟩ rfl
        have hq3 := hpar.cell 3
        have hr3 := hres.cell 3
        have hf3 := hpar.free ⟨w.heap.size, 3, none⟩ rfl
        have hg3 := hres.free ⟨w.heap.size + 1, 3, none⟩ rfl
        have hq4 := hpar.cell 4
        have hr4 := hres.cell 4
        have hf4 := hpar.free ⟨w.heap.size, 4, none⟩ rfl
        have hg4 := hres.free ⟨w.heap.size + 1, 4, none⟩ rfl
        have hq5 := hpar.cell 5
        have hr5 := hres.cell 5
        have hf5 := hpar.free ⟨w.heap.size, 5, none⟩ rfl
        have hg5 := hres.free ⟨w.heap.size + 1, 5, none⟩ rfl
        have hq6 := hpar.cell 6
        have hr6 := hres.cell 6
        have hf6 := hpar.free ⟨w.heap.size, 6, none⟩ rfl
        have hg6 := hres.free ⟨w.heap.size + 1, 6, none⟩ rfl
        have hq7 := hpar.cell 7
        have hr7 := hres.cell 7
        have hf7 := hpar.free ⟨w.heap.size, 7, none⟩ rfl
        have hg7 := hres.free ⟨w.heap.size + 1, 7, none⟩ rfl
        simp only [List.getElem?_cons_zero, List.getElem?_cons_succ] at hb0 hb1 hb2 hb3 hb4 hq0 hr0 hq1 hr1 hq2 hr2 hq3 hr3 hq4 hr4 hq5 hr5 hq6 hr6 hq7 hr7
        have HPAR := Lib.hid hpar
        have HRES := Lib.hid hres
        clear hpar hres
        have HBLK := Lib.hid (fun wz e => less_last HPAR.out HRES.out (Nat.succ_ne_self _) (.slice A0' j c0') (.slice v.A1 m1.toNat v.c1) (.slice v.A2 m2.toNat v.c2) (.slice v.A3 m3.toNat v.c3) (.slice v.A4 m4.toNat v.c4) wz e)
        have HFIN := Lib.hid (fun wz (hf : Fr _ wz _) => less_post (wz := wz) (n1 := m1.toNat) (n2 := m2.toNat) (l' := l') (A := A) (c := c) (N := N) (M := M) HV.out HLT.out HJL.out hlc0 HC0.out (((HFR.out.mono (fun k _ hk => .inl (hk.trans HPB.out))).trans (hf.mono (S' := fun k => k = w.heap.size + 1 + 1 ∨ k = w.heap.size ∨ k = w.heap.size + 1) (fun _ _ h => .inr h)) (fun _ _ => id))) (by rw [HMT1.out]; simp [lessD, hcut]) (by rw [HMT2.out]; simp [lessD, hcut]) (HMT3.out) (HMT4.out))
        clear HPAR HRES HBX HFR HLT HC0 HMT1 HMT2 HMT3 HMT4 HM1 HM2 HM3 HM4 HJL
        go_wp2
        (try simp only [Exit.inBlock, Exit.then])
        refine bodyPost_end (results_cell_row rfl _ _ (w.heap.size + 1) TCA _ (0, 0) _ rfl (HBLK.out _ rfl).1 Try.underlying46 rfl csize) rfl ?_
        exact HQ'.out _ _ (HFIN.out _ (HBLK.out _ rfl).2)
      · have h70 : d.fields.length ≤ j := by omega
        have hjl : j = (d.fields.take 70).length := by simp; omega
        obtain ⟨A0', c0', hfv, hlc0, hC0⟩ := less_reads HAT2.out hjl
        have HC0 := Lib.hid hC0
        have HJL := Lib.hid hjl
        have HLT := Lib.hid HAT2.out
        clear hC0 hjl HAT2
        subst hfv
        obtain ⟨pb2, hpb2⟩ : ∃ pb2, pb2 = w.heap.size + 1 + 1 := ⟨_, rfl⟩
        rw [← hpb2] at hp0 ⊢
        have HBW := Lib.hid (show Blk wr pb2 TRW (v.cells d) by rw [hpb2]; exact HLT.out.box)
        have HPB := Lib.hid hpb2
        clear hpb2
        have hz0 := HBW.out.free ⟨pb2, 0, none⟩ rfl
        obtain ⟨m1, hm1⟩ : ∃ m : Int, m = (if 70 < (d.infos.length : Int) then 70 else (d.infos.length : Int)) := ⟨_, rfl⟩
        obtain ⟨hm11, hm12, hm13⟩ := cut_len _ _ hm1
        have hm14 : m1 ≤ (v.c1 : Int) := by omega
        have HM1 := Lib.hid hm1
        have HMT1 := Lib.hid hm11
        clear hm1 hm11 hm13
        obtain ⟨m2, hm2⟩ : ∃ m : Int, m = (if 70 < (d.marks.length : Int) then 70 else (d.marks.length : Int)) := ⟨_, rfl⟩
        obtain ⟨hm21, hm22, hm23⟩ := cut_len _ _ hm2
        have hm24 : m2 ≤ (v.c2 : Int) := by omega
        have HM2 := Lib.hid hm2
        have HMT2 := Lib.hid hm21
        clear hm2 hm21 hm23
        obtain ⟨m3, hm3⟩ : ∃ m : Int, m = (if 70 < (d.states.length : Int) then 70 else (d.states.length : Int)) := ⟨_, rfl⟩
        obtain ⟨hm31, hm32, hm33⟩ := cut_len _ _ hm3
        have hm34 : m3 ≤ (v.c3 : Int) := by omega
        have HM3 := Lib.hid hm3
        have HMT3 := Lib.hid hm31
        clear hm3 hm31 hm33
        obtain ⟨m4, hm4⟩ : ∃ m : Int, m = (if 70 < (d.frozen.length : Int) then 70 else (d.frozen.length : Int)) := ⟨_, rfl⟩
        obtain ⟨hm41, hm42, hm43⟩ := cut_len _ _ hm4
        have hm44 : m4 ≤ (v.c4 : Int) := by omega
        have HM4 := Lib.hid hm4
        have HMT4 := Lib.hid hm41
        clear hm4 hm41 hm43
        go_wp2
        have HBX := Lib.hid (show Blk (wr.setCell ⟨pb2, 0, none⟩ (.slice A0' j c0')) pb2 TRW [.slice A0' j c0', .slice v.A1 d.infos.length v.c1, .slice v.A2 d.marks.length v.c2, .slice v.A3 d.states.length v.c3, .slice v.A4 d.frozen.length v.c4] from HBW.out.set 0 (.slice A0' j c0'))
        have HFR := Lib.hid (show Fr wr (wr.setCell ⟨pb2, 0, none⟩ (.slice A0' j c0')) (fun k => k = pb2) from (Fr.refl wr _).setCell _ _ (fun _ => rfl))
        generalize wr.setCell ⟨pb2, 0, none⟩ (.slice A0' j c0') = wX at *
        clear HBW hp0 hz0
        refine start_ (n := 18) (S := fun w' => w'.cell? ⟨pb2, 3, none⟩ = some (.slice v.A3 d.states.length v.c3) ∧ w'.cell? ⟨pb2, 4, none⟩ = some (.slice v.A4 d.frozen.length v.c4)) (ds := [15, 17]) #[false, false, false, false, false, false, false, false, false, false, false, false, false, false, false, false, false, false] (by kernel_rfl) rfl rfl ⟨HBX.out.cell 3, HBX.out.cell 4⟩ (fun hHeld => ?_)
        have HBQ := Lib.hid (show Blk wX.drew pb2 TRW [.slice A0' j c0', .slice v.A1 d.infos.length v.c1, .slice v.A2 d.marks.length v.c2, .slice v.A3 d.states.length v.c3, .slice v.A4 d.frozen.length v.c4] from HBX.out)
        have HST1 := Lib.hid (run_store_run (P := Try.prog) (w := wX.drew) (g := pb2) (o := 3) 23 (.slice v.A3 m3.toNat v.c3) [.slice v.A3 m3.toNat v.c3] HBQ.out rfl (by kernel_rfl) (by simp) (by intro q hq; simp only [List.mem_singleton] at hq; subst hq; rfl))
        have HB1 := Lib.hid (show Blk (wX.drew.setCells pb2 3 [.slice v.A3 m3.toNat v.c3]) pb2 TRW [.slice A0' j c0', .slice v.A1 d.infos.length v.c1, .slice v.A2 d.marks.length v.c2, .slice v.A3 m3.toNat v.c3, .slice v.A4 d.frozen.length v.c4] from HBQ.out.set 3 (.slice v.A3 m3.toNat v.c3))
        have HST2 := Lib.hid (run_store_run (P := Try.prog) (w := wX.drew.setCells pb2 3 [.slice v.A3 m3.toNat v.c3]) (g := pb2) (o := 4) 24 (.slice v.A4 m4.toNat v.c4) [.slice v.A4 m4.toNat v.c4] HB1.out rfl (by kernel_rfl) (by simp) (by intro q hq; simp only [List.mem_singleton] at hq; subst hq; rfl))
        have HB2 := Lib.hid (show Blk ((wX.drew.setCells pb2 3 [.slice v.A3 m3.toNat v.c3]).setCells pb2 4 [.slice v.A4 m4.toNat v.c4]) pb2 TRW [.slice A0' j c0', .slice v.A1 d.infos.length v.c1, .slice v.A2 d.marks.length v.c2, .slice v.A3 m3.toNat v.c3, .slice v.A4 m4.toNat v.c4] from HB1.out.set 4 (.slice v.A4 m4.toNat v.c4))
        have HFR2 := Lib.hid (show Fr wr ((wX.drew.setCells pb2 3 [.slice v.A3 m3.toNat v.c3]).setCells pb2 4 [.slice v.A4 m4.toNat v.c4]) (fun k => k = pb2) from ((HFR.out.drew).setCell ⟨pb2, 3, none⟩ (.slice v.A3 m3.toNat v.c3) (fun _ => rfl)).setCell ⟨pb2, 4, none⟩ (.slice v.A4 m4.toNat v.c4) (fun _ => rfl))
        refine pure_ (i := 0) (N := some 67) (v := ?_) (a' := ?_) #[true, false, false, false, false, false, false, false, false, false, false, false, false, false, false, false, false, false] rfl rfl (by kernel_rfl) (fun _ _ _ h => h) (Or.inl ⟨by rfl, ?_⟩) ?_ ?_
        rotate_left
        · intro w'
          go_simp
          with_reducible rfl
        rotate_left
        · simp only [Act.put, List.setIfInBounds_toArray, List.set_cons_zero, List.set_cons_succ]
          rfl
        refine take_ (i := 1) (N := some 68) (v := ?_) (a' := ?_) #[true, true, false, false, false, false, false, false, false, false, false, false, false, false, false, false, false, false] rfl rfl (by kernel_rfl) (fun _ _ _ h => h) (Or.inl ⟨by rfl, ?_⟩) hHeld ?_ ?_
        rotate_left
        · rintro w' ⟨s0, s1⟩
          go_simp
          with_reducible rfl
        rotate_left
        · simp only [Act.put, List.setIfInBounds_toArray, List.set_cons_zero, List.set_cons_succ]
          rfl
        refine pure_ (i := 2) (N := some 69) (v := ?_) (a' := ?_) #[true, true, true, false, false, false, false, false, false, false, false, false, false, false, false, false, false, false] rfl rfl (by kernel_rfl) (fun _ _ _ h => h) (Or.inl ⟨by rfl, ?_⟩) ?_ ?_
        rotate_left
        · intro w'
          go_simp
          with_reducible rfl
        rotate_left
        · simp only [Act.put, List.setIfInBounds_toArray, List.set_cons_zero, List.set_cons_succ]
          rfl
        refine take_ (i := 3) (N := some 70) (v := ?_) (a' := ?_) #[true, true, true, true, false, false, false, false, false, false, false, false, false, false, false, false, false, false] rfl rfl (by kernel_rfl) (fun _ _ _ h => h) (Or.inl ⟨by rfl, ?_⟩) hHeld ?_ ?_
        rotate_left
        · rintro w' ⟨s0, s1⟩
          go_simp
          with_reducible rfl
        rotate_left
        · simp only [Act.put, List.setIfInBounds_toArray, List.set_cons_zero, List.set_cons_succ]
          rfl
        refine pure_ (i := 4) (N := some 71) (v := ?_) (a' := ?_) #[true, true, true, true, true, false, false, false, false, false, false, false, false, false, false, false, false, false] rfl rfl (by kernel_rfl) (fun _ _ _ h => h) (Or.inl ⟨by rfl, ?_⟩) ?_ ?_
        rotate_left
        · intro w'
          go_simp
          with_reducible rfl
        rotate_left
        · simp only [Act.put, List.setIfInBounds_toArray, List.set_cons_zero, List.set_cons_succ]
          rfl
        refine pure_ (i := 5) (N := some 72) (v := .int .i64 m3) (a' := ?_) #[true, true, true, true, true, true, false, false, false, false, false, false, false, false, false, false, false, false] rfl rfl (by kernel_rfl) (fun _ _ _ h => h) (Or.inl ⟨by rfl, ?_⟩) ?_ ?_
        · intro w'
          rw [HM3.out]
          go_simp
        rotate_left
        · simp only [Act.put, List.setIfInBounds_toArray, List.set_cons_zero, List.set_cons_succ]
          rfl
        refine pure_ (i := 6) (N := some 73) (v := ?_) (a' := ?_) #[true, true, true, true, true, true, true, false, false, false, false, false, false, false, false, false, false, false] rfl rfl (by kernel_rfl) (fun _ _ _ h => h) (Or.inl ⟨by rfl, ?_⟩) ?_ ?_
        rotate_left
        · intro w'
          go_simp
          with_reducible rfl
        rotate_left
        · simp only [Act.put, List.setIfInBounds_toArray, List.set_cons_zero, List.set_cons_succ]
          rfl
        refine pure_ (i := 7) (N := some 74) (v := ?_) (a' := ?_) #[true, true, true, true, true, true, true, true, false, false, false, false, false, false, false, false, false, false] rfl rfl (by kernel_rfl) (fun _ _ _ h => h) (Or.inl ⟨by rfl, ?_⟩) ?_ ?_
        rotate_left
        · intro w'
          go_simp
          with_reducible rfl
        rotate_left
        · simp only [Act.put, List.setIfInBounds_toArray, List.set_cons_zero, List.set_cons_succ]
          rfl
        refine take_ (i := 8) (N := some 75) (v := ?_) (a' := ?_) #[true, true, true, true, true, true, true, true, true, false, false, false, false, false, false, false, false, false] rfl rfl (by kernel_rfl) (fun _ _ _ h => h) (Or.inl ⟨by rfl, ?_⟩) hHeld ?_ ?_
        rotate_left
        · rintro w' ⟨s0, s1⟩
          go_simp
          with_reducible rfl
        rotate_left
        · simp only [Act.put, List.setIfInBounds_toArray, List.set_cons_zero, List.set_cons_succ]
          rfl
        refine pure_ (i := 9) (N := some 76) (v := ?_) (a' := ?_) #[true, true, true, true, true, true, true, true, true, true, false, false, false, false, false, false, false, false] rfl rfl (by kernel_rfl) (fun _ _ _ h => h) (Or.inl ⟨by rfl, ?_⟩) ?_ ?_
        rotate_left
        · intro w'
          go_simp
          with_reducible rfl
        rotate_left
        · simp only [Act.put, List.setIfInBounds_toArray, List.set_cons_zero, List.set_cons_succ]
          rfl
        refine take_ (i := 10) (N := some 77) (v := ?_) (a' := ?_) #[true, true, true, true, true, true, true, true, true, true, true, false, false, false, false, false, false, false] rfl rfl (by kernel_rfl) (fun _ _ _ h => h) (Or.inl ⟨by rfl, ?_⟩) hHeld ?_ ?_
        rotate_left
        · rintro w' ⟨s0, s1⟩
          go_simp
          with_reducible rfl
        rotate_left
        · simp only [Act.put, List.setIfInBounds_toArray, List.set_cons_zero, List.set_cons_succ]
          rfl
        refine pure_ (i := 11) (N := some 78) (v := ?_) (a' := ?_) #[true, true, true, true, true, true, true, true, true, true, true, true, false, false, false, false, false, false] rfl rfl (by kernel_rfl) (fun _ _ _ h => h) (Or.inl ⟨by rfl, ?_⟩) ?_ ?_
        rotate_left
        · intro w'
          go_simp
          with_reducible rfl
        rotate_left
        · simp only [Act.put, List.setIfInBounds_toArray, List.set_cons_zero, List.set_cons_succ]
          rfl
        refine pure_ (i := 12) (N := some 79) (v := .int .i64 m4) (a' := ?_) #[true, true, true, true, true, true, true, true, true, true, true, true, true, false, false, false, false, false] rfl rfl (by kernel_rfl) (fun _ _ _ h => h) (Or.inl ⟨by rfl, ?_⟩) ?_ ?_
        · intro w'
          rw [HM4.out]
          go_simp
        rotate_left
        · simp only [Act.put, List.setIfInBounds_toArray, List.set_cons_zero, List.set_cons_succ]
          rfl
        refine pure_ (i := 13) (N := some 80) (v := ?_) (a' := ?_) #[true, true, true, true, true, true, true, true, true, true, true, true, true, true, false, false, false, false] rfl rfl (by kernel_rfl) (fun _ _ _ h => h) (Or.inl ⟨by rfl, ?_⟩) ?_ ?_
        rotate_left
        · intro w'
          go_simp
          with_reducible rfl
        rotate_left
        · simp only [Act.put, List.setIfInBounds_toArray, List.set_cons_zero, List.set_cons_succ]
          rfl
        refine pure_ (i := 14) (N := some 81) (v := ?_) (a' := ?_) #[true, true, true, true, true, true, true, true, true, true, true, true, true, true, true, false, false, false] rfl rfl (by kernel_rfl) (fun _ _ _ h => h) (Or.inl ⟨by rfl, ?_⟩) ?_ ?_
        rotate_left
        · intro w'
          go_simp
          with_reducible rfl
        rotate_left
        · simp only [Act.put, List.setIfInBounds_toArray, List.set_cons_zero, List.set_cons_succ]
          rfl
        refine last_ (i := 15) (N := none) #[true, true, true, true, true, true, true, true, true, true, true, true, true, true, true, true, false, false] rfl rfl (by kernel_rfl) (by decide) (fun K hK => ?_)
        refine skip_ (by rfl) rfl (store_exec rfl (eval_of rfl) (eval_of rfl) HST1.out) (hK.out _ _ ?_)
        clear hK
        refine pure_ (i := 16) (N := some 82) (v := ?_) (a' := ?_) #[true, true, true, true, true, true, true, true, true, true, true, true, true, true, true, true, true, false] rfl rfl (by kernel_rfl) (fun _ _ _ h => h) (Or.inl ⟨by rfl, ?_⟩) ?_ ?_
        rotate_left
        · intro w'
          go_simp
          with_reducible rfl
        rotate_left
        · simp only [Act.put, List.setIfInBounds_toArray, List.set_cons_zero, List.set_cons_succ]
          rfl
        refine last_ (i := 17) (N := none) #[true, true, true, true, true, true, true, true, true, true, true, true, true, true, true, true, true, true] rfl rfl (by kernel_rfl) (by decide) (fun K hK => ?_)
        refine skip_ (by rfl) rfl (store_exec rfl (eval_of rfl) (eval_of rfl) HST2.out) (hK.out _ _ ?_)
        clear hK
        refine done_ (by kernel_rfl) ?_
        generalize (wX.drew.setCells pb2 3 [.slice v.A3 m3.toNat v.c3]).setCells pb2 4 [.slice v.A4 m4.toNat v.c4] = wZ at *
        clear hHeld HBX HBQ HB1 HST1 HST2 HFR
        have HBX := Lib.hid HB2.out
        have HFR := Lib.hid HFR2.out
        clear HB2 HFR2
        have hb0 := HBX.out.cell 0
        have hb1 := HBX.out.cell 1
        have hb2 := HBX.out.cell 2
        have hb3 := HBX.out.cell 3
        have hb4 := HBX.out.cell 4
        have hpar := HFR.out.blk HLT.out.par (fun e => by have := HPB.out; omega)
        have hres := HFR.out.blk HLT.out.res (fun e => by have := HPB.out; omega)
        have hq0 := hpar.cell 0
        have hr0 := hres.cell 0
        have hf0 := hpar.free ⟨w.heap.size, 0, none⟩ rfl
        have hg0 := hres.free ⟨w.heap.size + 1, 0, none⟩ rfl
        have hq1 := hpar.cell 1
        have hr1 := hres.cell 1
        have hf1 := hpar.free ⟨w.heap.size, 1, none⟩ rfl
        have hg1 := hres.free ⟨w.heap.size + 1, 1, none⟩ rfl
        have hq2 := hpar.cell 2
        have hr2 := hres.cell 2
        have hf2 := hpar.free ⟨w.heap.size, 2, none⟩ rfl
        have hg2 := hres.free ⟨w.heap.size + 1, 2, none⟩ rfl
        have hq3 := hpar.cell 3
        have hr3 := hres.cell 3
        have hf3 := hpar.free ⟨w.heap.size, 3, none⟩ rfl
        have hg3 := hres.free ⟨w.heap.size + 1, 3, none⟩ rfl
        have hq4 := hpar.cell 4
        have hr4 := hres.cell 4
        have hf4 := hpar.free ⟨w.heap.size, 4, none⟩ rfl
        have hg4 := hres.free ⟨w.heap.size + 1, 4, none⟩ rfl
        have hq5 := hpar.cell 5
        have hr5 := hres.cell 5
        have hf5 := hpar.free ⟨w.heap.size, 5, none⟩ rfl
        have hg5 := hres.free ⟨w.heap.size + 1, 5, none⟩ rfl
        have hq6 := hpar.cell 6
        have hr6 := hres.cell 6
        have hf6 := hpar.free ⟨w.heap.size, 6, none⟩ rfl
        have hg6 := hres.free ⟨w.heap.size + 1, 6, none⟩ rfl
        have hq7 := hpar.cell 7
        have hr7 := hres.cell 7
        have hf7 := hpar.free ⟨w.heap.size, 7, none⟩ rfl
        have hg7 := hres.free ⟨w.heap.size + 1, 7, none⟩ rfl
        simp only [List.getElem?_cons_zero, List.getElem?_cons_succ] at hb0 hb1 hb2 hb3 hb4 hq0 hr0 hq1 hr1 hq2 hr2 hq3 hr3 hq4 hr4 hq5 hr5 hq6 hr6 hq7 hr7
        have HPAR := Lib.hid hpar
        have HRES := Lib.hid hres
        clear hpar hres
        have HBLK := Lib.hid (fun wz e => less_last HPAR.out HRES.out (Nat.succ_ne_self _) (.slice A0' j c0') (.slice v.A1 d.infos.length v.c1) (.slice v.A2 d.marks.length v.c2) (.slice v.A3 m3.toNat v.c3) (.slice v.A4 m4.toNat v.c4) wz e)
        have HFIN := Lib.hid (fun wz (hf : Fr _ wz _) => less_post (wz := wz) (n1 := d.infos.length) (n2 := d.marks.length) (l' := l') (A := A) (c := c) (N := N) (M := M) HV.out HLT.out HJL.out hlc0 HC0.out (((HFR.out.mono (fun k _ hk => .inl (hk.trans HPB.out))).trans (hf.mono (S' := fun k => k = w.heap.size + 1 + 1 ∨ k = w.heap.size ∨ k = w.heap.size + 1) (fun _ _ h => .inr h)) (fun _ _ => id))) (by simp [lessD, hcut]) (by simp [lessD, hcut]) (HMT3.out) (HMT4.out))
        clear HPAR HRES HBX HFR HLT HC0 HMT1 HMT2 HMT3 HMT4 HM1 HM2 HM3 HM4 HJL
        go_wp2
        (try simp only [Exit.inBlock, Exit.then])
        refine bodyPost_end (results_cell_row rfl _ _ (w.heap.size + 1) TCA _ (0, 0) _ rfl (HBLK.out _ rfl).1 Try.underlying46 rfl csize) rfl ?_
        exact HQ'.out _ _ (HFIN.out _ (HBLK.out _ rfl).2)
end Go.Proofs.Ytphhdmopfmelbaa
