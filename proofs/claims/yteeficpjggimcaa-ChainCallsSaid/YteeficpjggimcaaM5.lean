/- Joined texts: ChainI ChainJ ChainK. -/
import Derived.Test.YteeficpjggimcaaM4

/- chain: insert, where nobody is in the way. Printed by p_chain3.py. -/
namespace Go.Proofs.Yteeficpjggimcaa
open Go.RowKit Go.Proofs.YteeficpjggimcaaW.PrintWords Go.Proofs.YteeficpjggimcaaW.PrintLast
set_option linter.unusedVariables false
set_option linter.unusedSimpArgs false

theorem psOf_cut (l1 : List (Int × Int)) : ∃ A a, A.length = l1.length ∧ ∀ l2, psOf (l1 ++ l2) = A ++ a :: (l2 ++ [(0, 0)]) := by
  have hne : ((0, 0) :: l1) ≠ [] := by simp
  refine ⟨((0, 0) :: l1).dropLast, ((0, 0) :: l1).getLast hne, by simp, fun l2 => ?_⟩
  have := List.dropLast_concat_getLast hne
  show (0, 0) :: ((l1 ++ l2) ++ [(0, 0)]) = _
  rw [List.append_assoc, ← List.cons_append]
  conv => lhs; rw [← this]
  simp
theorem LkAt.one {w : World} {la : Nat} {y : Lk} (h : Blk w la TLK y.cells) : LkAt w la [y] := fun j z hz => by
  rcases j with _ | j
  · simp only [List.getElem?_cons_zero, Option.some.injEq] at hz
    subst hz
    exact ⟨h.cell 0, h.cell 1, h.cell 2⟩
  · simp at hz
theorem wanted_true {oi : Oper} {ops : Array Oper} {tmps : Array Value} {j t : Nat} (hg : oi.guard = some (j, true)) (hd : (ops[j]?).bind (·.dst) = some t) (he : tmps[t]? = some (.bool true)) : Region.wanted oi (yielded ops tmps) = true := by
  simp [Region.wanted, hg, yielded, hd, he]
theorem own_step {W w1 : World} {B' base e n : Nat} {g : Option Nat} {ks ks' : List Int} {v : Value} {us : List Value} (h : W.ownsRow base e 1 v n us) (hg : GAtI W B' g ks) (hs : StepI B' g W w1 ks' (fun _ => False)) (h1 : e ≠ 127) (h2 : e ≠ 3) : w1.ownsRow base e 1 v n us :=
  owns_fr h hs.fr (fun k hk hx => by
    rcases hx with hx | hx
    · obtain ⟨ys, hy⟩ := owns_typed h k hk
      exact hg.apart hy h1 h2 hx
    · exact hx)
theorem LkAt.two {w : World} {la : Nat} {y z : Lk} (h : Blk w la TLK (y.cells ++ z.cells)) : LkAt w la [y, z] := fun j q hq => by
  rcases j with _ | _ | j
  · simp only [List.getElem?_cons_zero, Option.some.injEq] at hq
    subst hq
    exact ⟨h.cell 0, h.cell 1, h.cell 2⟩
  · simp only [List.getElem?_cons_zero, List.getElem?_cons_succ, Option.some.injEq] at hq
    subst hq
    exact ⟨h.cell 3, h.cell 4, h.cell 5⟩
  · simp at hq
theorem LkAt.three {w : World} {la : Nat} {y z u : Lk} (h : Blk w la TLK (y.cells ++ (z.cells ++ u.cells))) : LkAt w la [y, z, u] := fun j q hq => by
  rcases j with _ | _ | _ | j
  · simp only [List.getElem?_cons_zero, Option.some.injEq] at hq
    subst hq
    exact ⟨h.cell 0, h.cell 1, h.cell 2⟩
  · simp only [List.getElem?_cons_zero, List.getElem?_cons_succ, Option.some.injEq] at hq
    subst hq
    exact ⟨h.cell 3, h.cell 4, h.cell 5⟩
  · simp only [List.getElem?_cons_zero, List.getElem?_cons_succ, Option.some.injEq] at hq
    subst hq
    exact ⟨h.cell 6, h.cell 7, h.cell 8⟩
  · simp at hq
abbrev TPA : Nat := 56
/-- A change of the list has come: how, and what is there now. -/
def ChStep (B B' : Nat) (g : Option Nat) (w : World) (R : Nat → Option RecO) (X : Nat → Option ScxO) (bs : List Nat) (ks' : List Int) (l' : List (Int × Int)) (w' : World) : Prop :=
  ∃ R' X' bs', StepI B' g w w' ks' (RFoot R X) ∧ (∀ q, q < w.heap.size → RFoot R' X' q → RFoot R X q) ∧ Chn B w' R' X' bs' l' ∧ bs'[0]? = bs[0]? ∧ ∀ b o, R b = some o → ∃ o', R' b = some o' ∧ o'.data = o.data
theorem data_other {R : Nat → Option RecO} {s r0 nb b : Nat} {vs : List Nat} {L : List (Nat × Bool)} {p : Option Nat} {o o0 : RecO} (h : R b = some o) (hne : b ≠ nb) : ∃ o', swF r0 p (mrkF L (frzF s vs (upd R nb o0))) b = some o' ∧ o'.data = o.data := by
  simp only [swF, mrkF, frzF, upd_ne _ _ hne, h, Option.map_some]
  exact ⟨_, rfl, by split <;> split <;> rfl⟩
theorem foot_other {R : Nat → Option RecO} {X : Nat → Option ScxO} {s r0 b xb n q : Nat} {vs : List Nat} {L : List (Nat × Bool)} {p : Option Nat} {o : RecO} {x1 x2 : ScxO} (hb : n ≤ b) (hf : n ≤ o.fb) (hx : n ≤ xb) (hs : n ≤ s) (hq : q < n)
    (h : RFoot (swF r0 p (mrkF L (frzF s vs (upd R b o)))) (upd (upd X xb x1) s x2) q) : RFoot R X q := by
  rcases h with h | ⟨c, o', ho, e⟩ | h
  · obtain ⟨o', ho⟩ := Option.isSome_iff_exists.1 h
    obtain ⟨o2, ho2, _⟩ := scx_some ho
    rcases upd_cases ho2 with ⟨rfl, _⟩ | ⟨_, ho2⟩
    · omega
    · exact .inl (by rw [ho2]; rfl)
  · obtain ⟨o2, ho2, e2⟩ := scx_some ho
    rcases upd_cases ho2 with ⟨rfl, rfl⟩ | ⟨_, ho2⟩
    · omega
    · exact .inr (.inl ⟨c, o2, ho2, e2.trans e⟩)
  · unfold upd at h
    split at h
    · omega
    · split at h
      · omega
      · exact .inr (.inr h)
set_option maxHeartbeats 4000000 in
set_option maxRecDepth 100000 in
theorem Chn.insert {B B' : Nat} {w : World} {g : Option Nat} {ks : List Int} {R : Nat → Option RecO} {X : Nat → Option ScxO} {pre post : List Nat} {l1 l2 : List (Int × Int)} {p n : Nat} (h : Chn B w R X (pre ++ p :: n :: post) (l1 ++ l2)) (hg : GAtI w B' g ks) (hB : B' ≤ w.heap.size) (hBB : B ≤ w.heap.size) (hl : ks.length ≤ 700000000) (hpre : pre.length = l1.length) (k v : Int) :
    Calls Try.prog 28 #[gvI g, .pointer (some ⟨p, 0, none⟩), .pointer (some ⟨n, 0, none⟩), .agg #[.int .i64 k, .int .i64 v]] w fun e w' => e = .returned (.bool true) ∧ ChStep B B' g w R X (pre ++ p :: n :: post) (ks ++ (List.replicate 6 1 ++ [5, 2, 5, 2])) (l1 ++ (k, v) :: l2) w' := by
  refine calls_hide fun Q HQ => ?_
  have HQ' := Lib.hid HQ
  have hp : (pre ++ p :: n :: post)[pre.length]? = some p := by simp
  have hn : (pre ++ p :: n :: post)[pre.length + 1]? = some n := by rw [List.getElem?_append_right (by omega)]; simp
  obtain ⟨fb0, x, o, hb, hx, hst⟩ := h.at_ pre.length p hp
  rw [hn] at hb
  simp only [Option.toList_some, List.map_cons, List.map_nil] at hb
  have HRB := Lib.hid hb
  have HPRE := Lib.hid hpre
  have HKP := Lib.hid (Blk.new w TPA [.int .i64 k, .int .i64 v])
  have hbw := (Below.refl w.heap.size w).alloc (Nat.le_refl _) (.cells #[.int .i64 k, .int .i64 v] TPA)
  have hs0 := hg.below0 hbw (fun _ => False)
  have HS0 := Lib.hid hs0
  have HB := Lib.hid hB
  have HBB := Lib.hid hBB
  have HL := Lib.hid ((h.below hbw).linkTo hs0.gate (by simp; omega) (by omega) hb hx hst)
  have HSZ := Lib.hid (show w.heap.size < (w.alloc (.cells #[.int .i64 k, .int .i64 v] TPA)).heap.size by simp)
  clear HQ h hg hb hx hst hs0 hbw hp hn hpre
  go_enter Try.func28, Try.ntmps28
  go_wp2_with fail
  generalize w.alloc (.cells #[.int .i64 k, .int .i64 v] 56) = w0 at *
  generalize hpb : w.heap.size = pb at *
  have HPB := Lib.hid hpb
  clear hpb
  refine HL.out.mono ?_
  rintro e w1 ⟨A, c9, rfl, ho, hs, hc⟩
  obtain ⟨a9, e9, hrow, _⟩ := owns_one ho
  subst e9
  have HK1 := Lib.hid (hs.blk HS0.out.gate HKP.out (by decide) (by decide) (fun x => x))
  have HS1 := Lib.hid (HS0.out.trans hs (fun _ _ x => x))
  have hbw := (Below.refl w1.heap.size w1).alloc (Nat.le_refl _) (.cells #[.pointer (some ⟨p, 0, none⟩), .pointer (some ⟨x, 0, none⟩), .slice (some ⟨a9, 0, none⟩) 1 c9] TLK)
  have HK2 := Lib.hid (HK1.out.below hbw HK1.out.lt)
  have HN2 := Lib.hid (Blk.new w1 TLK [.pointer (some ⟨p, 0, none⟩), .pointer (some ⟨x, 0, none⟩), .slice (some ⟨a9, 0, none⟩) 1 c9])
  have HS2 := Lib.hid (step_new HS1.out (Fr.of_below0 (S := fun _ => False) hbw) (fun _ hk => hk.elim))
  have HC2 := Lib.hid (hc.below hbw)
  have HROW := Lib.hid (pw_cell_below hbw hrow)
  have HSZ2 := Lib.hid (Nat.le_trans (Nat.le_of_lt HSZ.out) (Nat.le_trans hs.fr.size hbw.size))
  clear hs hc ho hrow hbw HL HS0 HKP HK1 HS1 HSZ
  go_wp2_with fail
  generalize w1.alloc (.cells #[.pointer (some ⟨p, 0, none⟩), .pointer (some ⟨x, 0, none⟩), .slice (some ⟨a9, 0, none⟩) 1 c9] 95) = w2 at *
  generalize w1.heap.size = nb at *
  have HKQ : Hid (Blk w2.drew pb TPA [.int .i64 k, .int .i64 v]) := HK2
  have HNQ : Hid (Blk w2.drew nb TLK [.pointer (some ⟨p, 0, none⟩), .pointer (some ⟨x, 0, none⟩), .slice (some ⟨a9, 0, none⟩) 1 c9]) := HN2
  have HSQ := Lib.hid (step_new HS2.out (Fr.of_below0 (S := fun _ => False) (Below.refl w2.heap.size w2).drew) (fun _ hk => hk.elim))
  have HCQ := Lib.hid (HC2.out.below (Below.refl w2.heap.size w2).drew)
  have HRQ : Hid (w2.drew.cell? ⟨a9, 0, none⟩ = some (pv (some n))) := HROW
  have HSZQ : Hid (pb ≤ w2.drew.heap.size) := HSZ2
  clear HK2 HN2 HS2 HC2 HROW HSZ2
  refine start_ (n := 13) (S := fun _ => True) (ds := []) #[false, false, false, false, false, false, false, false, false, false, false, false, false] (by kernel_rfl) rfl rfl trivial (fun _ => ?_)
  generalize w2.drew = wq at *
  have HL0 := Lib.hid (fun w' (hb : Below wq.heap.size wq w') => pw_cell_below (w := wq) hb (show wq.cell? ⟨nb, 0, none⟩ = some (.pointer (some ⟨p, 0, none⟩)) from HNQ.out.cell 0))
  have HL1 := Lib.hid (fun w' (hb : Below wq.heap.size wq w') => pw_cell_below (w := wq) hb (show wq.cell? ⟨nb, 1, none⟩ = some (.pointer (some ⟨x, 0, none⟩)) from HNQ.out.cell 1))
  have HL2 := Lib.hid (fun w' (hb : Below wq.heap.size wq w') => pw_cell_below (w := wq) hb (show wq.cell? ⟨nb, 2, none⟩ = some (.slice (some ⟨a9, 0, none⟩) 1 c9) from HNQ.out.cell 2))
  have HP0 := Lib.hid (fun w' (hb : Below wq.heap.size wq w') => pw_cell_below (w := wq) hb (show wq.cell? ⟨pb, 0, none⟩ = some (.int .i64 k) from HKQ.out.cell 0))
  have HP1 := Lib.hid (fun w' (hb : Below wq.heap.size wq w') => pw_cell_below (w := wq) hb (show wq.cell? ⟨pb, 1, none⟩ = some (.int .i64 v) from HKQ.out.cell 1))
  have HNK := Lib.hid (show ∀ p ∈ [some n], Ok R p from fun p hp => by
    rw [List.mem_singleton.1 hp]
    exact fun b e => by cases e; exact HCQ.out.rep.kf _ _ HRB.out n (by simp))
  refine grow_region (md := .any) (w0 := wq) (B := [0, 1, 3, 3, 11, 3, 3, 3, 131, 451, 1023, 2047, 4095]) [(0, 18), (1, 19), (2, 20), (3, 21), (4, 22), (5, 23), (6, 24), (7, 25), (8, 26), (9, 27)] [10, 11, 12] (fun i => [].contains i) (fun i => 0) (fun i V w' => match i with
      | 0 => V 0 = .bool true
      | 1 => V 1 = .bool true
      | 2 => V 2 = gvI g
      | 3 => V 3 = .agg #[.pointer (some ⟨p, 0, none⟩), .pointer (some ⟨x, 0, none⟩), .slice (some ⟨a9, 0, none⟩) 1 c9]
      | 4 => ∃ s, V 4 = .slice (some ⟨s, 0, none⟩) 1 1 ∧ Blk w' s TLK [.pointer (some ⟨p, 0, none⟩), .pointer (some ⟨x, 0, none⟩), .slice (some ⟨a9, 0, none⟩) 1 c9]
      | 5 => ∃ s, V 5 = .slice (some ⟨s, 0, none⟩) 1 1 ∧ Blk w' s 4 [.bool false]
      | 6 => V 6 = .agg #[.int .i64 k, .int .i64 v]
      | 7 => V 7 = .pointer (some ⟨n, 0, none⟩)
      | 8 => ∃ s, V 8 = .slice (some ⟨s, 0, none⟩) 1 1 ∧ Blk w' s THRapiPair [.pointer (some ⟨n, 0, none⟩)]
      | 9 => ∃ b fb xb, V 9 = pv (some b) ∧ wq.heap.size ≤ b ∧ wq.heap.size ≤ fb ∧ wq.heap.size ≤ xb ∧ RepapiPair w' (upd R b ⟨[.int .i64 k, .int .i64 v], fb, [some n], some xb, false⟩) (upd X xb firstO)
      | _ => True) rfl (by kernel_rfl) (by kernel_rfl) (by kernel_rfl) (by kernel_rfl) (by kernel_rfl) (by kernel_rfl) (by kernel_rfl) (by kernel_rfl) ?_ ?_ ?_ ?_
  · intro e he V V' w' h hp
    simp only [List.mem_cons, List.not_mem_nil, or_false] at he
    rcases he with rfl | rfl | rfl | rfl | rfl | rfl | rfl | rfl | rfl | rfl
    · simp only [← h 0 (.inl rfl)]; exact hp
    · simp only [← h 1 (.inl rfl)]; exact hp
    · simp only [← h 2 (.inl rfl)]; exact hp
    · simp only [← h 3 (.inl rfl)]; exact hp
    · simp only [← h 4 (.inl rfl)]; exact hp
    · simp only [← h 5 (.inl rfl)]; exact hp
    · simp only [← h 6 (.inl rfl)]; exact hp
    · simp only [← h 7 (.inl rfl)]; exact hp
    · simp only [← h 8 (.inl rfl)]; exact hp
    · simp only [← h 9 (.inl rfl)]; exact hp
  · intro e he V w1 w2 hp hb
    simp only [List.mem_cons, List.not_mem_nil, or_false] at he
    rcases he with rfl | rfl | rfl | rfl | rfl | rfl | rfl | rfl | rfl | rfl
    · exact hp
    · exact hp
    · exact hp
    · exact hp
    · exact let ⟨s, h1, h2⟩ := hp; ⟨s, h1, (Fr.of_below0 (S := fun _ => False) hb).blk h2 id⟩
    · exact let ⟨s, h1, h2⟩ := hp; ⟨s, h1, (Fr.of_below0 (S := fun _ => False) hb).blk h2 id⟩
    · exact hp
    · exact hp
    · exact let ⟨s, h1, h2⟩ := hp; ⟨s, h1, (Fr.of_below0 (S := fun _ => False) hb).blk h2 id⟩
    · exact let ⟨b, fb, xb, h1, h2, h3, h4, h5⟩ := hp; ⟨b, fb, xb, h1, h2, h3, h4, h5.below hb⟩
  · intro e he
    simp only [List.mem_cons, List.not_mem_nil, or_false] at he
    rcases he with rfl | rfl | rfl | rfl | rfl | rfl | rfl | rfl | rfl | rfl
    · intro V a w' hd ho hB
      have e10 : a.tmps[10]? = some (.bool true) := (ho 10 (by decide)).trans rfl
      refine ⟨_, rfl, rfl, fun K hK => ?_⟩
      clear hd ho
      refine value_ (w1 := w') (v := .bool true) rfl rfl ?_ (hK.out _ _ (Below.refl _ _) (setV_self _ _ _) (fun h => absurd h (by decide)))
      go_simp
    · intro V a w' hd ho hB
      obtain ⟨e18, p18, o18⟩ := hd (0, 18) (by decide) (by kernel_rfl)
      rw [show V 0 = .bool true from p18] at e18
      refine ⟨_, rfl, rfl, fun K hK => ?_⟩
      clear hd ho
      refine value_ (w1 := w') (v := .bool true) rfl rfl ?_ (hK.out _ _ (Below.refl _ _) (setV_self _ _ _) (fun h => absurd h (by decide)))
      go_simp
    · intro V a w' hd ho hB
      have e0 : a.tmps[0]? = some (gvI g) := (ho 0 (by decide)).trans rfl
      obtain ⟨e19, p19, o19⟩ := hd (1, 19) (by decide) (by kernel_rfl)
      rw [show V 1 = .bool true from p19] at e19
      refine ⟨_, rfl, rfl, fun K hK => ?_⟩
      clear hd ho
      refine value_ (w1 := w') (v := gvI g) (wanted_true rfl rfl e19) rfl ?_ (hK.out _ _ (Below.refl _ _) (setV_self _ _ _) (fun h => absurd h (by decide)))
      go_simp
    · intro V a w' hd ho hB
      have e9 : a.tmps[9]? = some (.pointer (some ⟨nb, 0, none⟩)) := (ho 9 (by decide)).trans rfl
      obtain ⟨e19, p19, o19⟩ := hd (1, 19) (by decide) (by kernel_rfl)
      rw [show V 1 = .bool true from p19] at e19
      have hc0 := HL0.out w' hB
      have hc1 := HL1.out w' hB
      have hc2 := HL2.out w' hB
      refine ⟨_, rfl, rfl, fun K hK => ?_⟩
      clear hd ho
      refine value_ (w1 := w') (v := .agg #[.pointer (some ⟨p, 0, none⟩), .pointer (some ⟨x, 0, none⟩), .slice (some ⟨a9, 0, none⟩) 1 c9]) (wanted_true rfl rfl e19) rfl ?_ (hK.out _ _ (Below.refl _ _) (setV_self _ _ _) (fun h => absurd h (by decide)))
      go_simp
    · intro V a w' hd ho hB
      obtain ⟨e21, p21, o21⟩ := hd (3, 21) (by decide) (by kernel_rfl)
      rw [show V 3 = .agg #[.pointer (some ⟨p, 0, none⟩), .pointer (some ⟨x, 0, none⟩), .slice (some ⟨a9, 0, none⟩) 1 c9] from p21] at e21
      obtain ⟨e19, p19, o19⟩ := hd (1, 19) (by decide) (by kernel_rfl)
      rw [show V 1 = .bool true from p19] at e19
      refine ⟨_, rfl, rfl, fun K hK => ?_⟩
      refine value_ (w1 := w'.alloc (.cells #[.pointer (some ⟨p, 0, none⟩), .pointer (some ⟨x, 0, none⟩), .slice (some ⟨a9, 0, none⟩) 1 c9] TLK)) (v := .slice (some ⟨w'.heap.size, 0, none⟩) 1 1) (wanted_true rfl rfl e19) rfl ?_ (hK.out _ _ ((Below.refl _ _).alloc (Nat.le_refl _) _) ⟨w'.heap.size, setV_self _ _ _, Blk.new w' TLK [.pointer (some ⟨p, 0, none⟩), .pointer (some ⟨x, 0, none⟩), .slice (some ⟨a9, 0, none⟩) 1 c9]⟩ (fun h => absurd h (by decide)))
      clear hd ho hK
      go_simp
    · intro V a w' hd ho hB
      obtain ⟨e19, p19, o19⟩ := hd (1, 19) (by decide) (by kernel_rfl)
      rw [show V 1 = .bool true from p19] at e19
      refine ⟨_, rfl, rfl, fun K hK => ?_⟩
      refine value_ (w1 := w'.alloc (.cells #[.bool false] 4)) (v := .slice (some ⟨w'.heap.size, 0, none⟩) 1 1) (wanted_true rfl rfl e19) rfl ?_ (hK.out _ _ ((Below.refl _ _).alloc (Nat.le_refl _) _) ⟨w'.heap.size, setV_self _ _ _, Blk.new w' 4 [.bool false]⟩ (fun h => absurd h (by decide)))
      clear hd ho hK
      go_simp
    · intro V a w' hd ho hB
      have e7 : a.tmps[7]? = some (.pointer (some ⟨pb, 0, none⟩)) := (ho 7 (by decide)).trans rfl
      obtain ⟨e19, p19, o19⟩ := hd (1, 19) (by decide) (by kernel_rfl)
      rw [show V 1 = .bool true from p19] at e19
      have hc0 := HP0.out w' hB
      have hc1 := HP1.out w' hB
      refine ⟨_, rfl, rfl, fun K hK => ?_⟩
      clear hd ho
      refine value_ (w1 := w') (v := .agg #[.int .i64 k, .int .i64 v]) (wanted_true rfl rfl e19) rfl ?_ (hK.out _ _ (Below.refl _ _) (setV_self _ _ _) (fun h => absurd h (by decide)))
      go_simp
    · intro V a w' hd ho hB
      have e2 : a.tmps[2]? = some (.pointer (some ⟨n, 0, none⟩)) := (ho 2 (by decide)).trans rfl
      obtain ⟨e19, p19, o19⟩ := hd (1, 19) (by decide) (by kernel_rfl)
      rw [show V 1 = .bool true from p19] at e19
      refine ⟨_, rfl, rfl, fun K hK => ?_⟩
      clear hd ho
      refine value_ (w1 := w') (v := .pointer (some ⟨n, 0, none⟩)) (wanted_true rfl rfl e19) rfl ?_ (hK.out _ _ (Below.refl _ _) (setV_self _ _ _) (fun h => absurd h (by decide)))
      go_simp
    · intro V a w' hd ho hB
      obtain ⟨e25, p25, o25⟩ := hd (7, 25) (by decide) (by kernel_rfl)
      rw [show V 7 = .pointer (some ⟨n, 0, none⟩) from p25] at e25
      obtain ⟨e19, p19, o19⟩ := hd (1, 19) (by decide) (by kernel_rfl)
      rw [show V 1 = .bool true from p19] at e19
      refine ⟨_, rfl, rfl, fun K hK => ?_⟩
      refine value_ (w1 := w'.alloc (.cells #[.pointer (some ⟨n, 0, none⟩)] THRapiPair)) (v := .slice (some ⟨w'.heap.size, 0, none⟩) 1 1) (wanted_true rfl rfl e19) rfl ?_ (hK.out _ _ ((Below.refl _ _).alloc (Nat.le_refl _) _) ⟨w'.heap.size, setV_self _ _ _, Blk.new w' THRapiPair [.pointer (some ⟨n, 0, none⟩)]⟩ (fun h => absurd h (by decide)))
      clear hd ho hK
      go_simp
    · intro V a w' hd ho hB
      obtain ⟨e24, p24, o24⟩ := hd (6, 24) (by decide) (by kernel_rfl)
      rw [show V 6 = .agg #[.int .i64 k, .int .i64 v] from p24] at e24
      obtain ⟨e26, p26, o26⟩ := hd (8, 26) (by decide) (by kernel_rfl)
      obtain ⟨e19, p19, o19⟩ := hd (1, 19) (by decide) (by kernel_rfl)
      rw [show V 1 = .bool true from p19] at e19
      refine ⟨_, rfl, rfl, fun K hK => ?_⟩
      obtain ⟨s8, hs8, hb8⟩ := p26
      rw [hs8] at e26
      have hrow9 := Row1.of_blk (us := [pv (some n)]) (rest := []) hb8
      refine goes_ Try.func22 (by kernel_rfl) rfl #[.agg #[.int .i64 k, .int .i64 v], .slice (some ⟨s8, 0, none⟩) 1 1] (wanted_true rfl rfl e19) rfl rfl (by simp [eval_of e24, eval_of e26]) ?_
      refine (new_apiPair _ _ _ _ [some n] R X w' (HCQ.out.below hB).rep hrow9 (fun p hp => HNK.out p hp) (by simp)).mono ?_
      rintro e w2 ⟨b, fb, xb, rfl, h1, h2, h3, hbl, hrep⟩
      exact ⟨_, rfl, hK.out _ _ hbl ⟨b, fb, xb, setV_self _ _ _, Nat.le_trans hB.size h1, Nat.le_trans hB.size h2, Nat.le_trans hB.size h3, hrep⟩ (fun h => absurd h (by decide))⟩
  · intro V a w' hfr hB hP hap hlt
    have P0 := hP (0, 18) (by decide)
    have P1 := hP (1, 19) (by decide)
    have P2 := hP (2, 20) (by decide)
    have P3 := hP (3, 21) (by decide)
    have P4 := hP (4, 22) (by decide)
    have P5 := hP (5, 23) (by decide)
    have P6 := hP (6, 24) (by decide)
    have P7 := hP (7, 25) (by decide)
    have P8 := hP (8, 26) (by decide)
    have P9 := hP (9, 27) (by decide)
    clear hP
    have P0 : V 0 = .bool true := P0
    have P1 : V 1 = .bool true := P1
    have P2 : V 2 = gvI g := P2
    obtain ⟨s4, hs4, hb4⟩ := P4
    obtain ⟨s5, hs5, hb5⟩ := P5
    obtain ⟨b, fb, xb, hs9, h1, h2, h3, hrep⟩ := P9
    have hBq := Nat.le_trans HBB.out HSZQ.out
    have hch := HCQ.out.addRec h1 h2 h3 hBq hrep
    have hgq := HSQ.out.gate.below0 hB (fun _ => False)
    have hplt := (HCQ.out.rep.recs _ _ HRB.out).1.lt
    have hpb : p ≠ b := fun e => by omega
    have hxs := hch.scx (y0 := ⟨p, x, some ⟨a9, 0, none⟩, 1, c9⟩) (L := []) (Af := some ⟨s5, 0, none⟩) (cf := 1) (cl := 1) (ff := [false]) (a0 := a9) (n := some n) (p := some b) hgq.gate (by have := hB.size; have := HSZQ.out; have := HB.out; omega) (by simp; omega) (LkAt.one hb4) (by simp) (Row1.of_blk (us := [.bool false]) (rest := []) hb5) (fun e => nomatch e) rfl rfl Nat.zero_lt_one (pw_cell_below hB HRQ.out) ((upd_ne _ _ hpb).trans HRB.out) rfl ((HNK.out _ (by simp)).upd _ _) (Ok.of (upd_self _ _ _)) (by simp) (fun y hy => by cases List.mem_singleton.1 hy; exact ⟨_, (upd_ne _ _ hpb).trans HRB.out, rfl⟩)
    have HXS := Lib.hid hxs
    have HCH := Lib.hid hch
    have HGQ := Lib.hid hgq
    have HBE := Lib.hid (And.intro (And.intro h1 h2) (And.intro h3 hB.size))
    have HREP := Lib.hid hrep
    clear hxs hch hgq hBq
    subst hfr
    simp only [vrows, List.map_cons, List.map_nil, putSel, if_true, Act.put, List.setIfInBounds_toArray, List.set_cons_zero, List.set_cons_succ, hs4, hs5, hs9, P0, P1, P2]
    refine ⟨_, rfl, ?_⟩
    refine goes_ Try.func42 (by kernel_rfl) rfl #[gvI g, .slice (some ⟨s4, 0, none⟩) 1 1, .slice (some ⟨s5, 0, none⟩) 1 1, .int .i64 0, .int .i64 0, pv (some b)] (wanted_true rfl rfl rfl) rfl rfl (by simp [Act.eval]) ?_
    refine HXS.out.mono ?_
    rintro e w3 ⟨rfl, s, v1, v2, v3, hs, hst, hrep3⟩
    have HGO := Lib.hid (show ChStep B B' g w R X (pre ++ p :: n :: post) (ks ++ (List.replicate 6 1 ++ [5, 2, 5, 2])) (l1 ++ (k, v) :: l2) w3 from by
      obtain ⟨A0, a0, hA, hcut⟩ := psOf_cut l1
      have hbe := HBE.out
      have hsz := HSZQ.out
      have hfr := HCQ.out.fresh hbe.1.1
      have hsX : (upd X xb firstO) s = none := by
        cases hc : (upd X xb firstO) s with
        | none => rfl
        | some o1 => have := (HREP.out.scx _ _ hc).lt; omega
      refine ⟨_, _, pre ++ p :: b :: n :: post, ?_, ?_, Chn.splice (mid := []) (post := n :: post) (ff := []) (M := []) (Z := l2 ++ [(0, 0)]) (d := (k, v)) HCH.out hfr (by simp) (upd_self _ _ _) (upd_self _ _ _) (.inr rfl) hsX (by have := HBB.out; omega) rfl (by rw [hcut]; rfl) (by rw [hA]; exact HPRE.out.symm) rfl (by rw [hcut]; rfl) hrep3, by cases pre <;> rfl, fun q o1 hq => data_other hq (fun e => by have := (HCQ.out.rep.recs _ _ hq).1.lt; omega)⟩
      · have h5 := ((HSQ.out.mono (S' := RFoot R X) (fun _ _ hk => hk.elim)).trans HGQ.out (fun _ _ hk => hk.elim)).trans hst (fun i hi hk => by
          rcases hk with hk | hk
          · rw [List.mem_singleton.1 hk]; exact .inl (by rw [HRB.out]; rfl)
          · exact .inr (.inl ⟨p, _, HRB.out, hk.symm⟩))
        rwa [List.append_assoc] at h5
      · intro q hq hk
        exact foot_other (n := w.heap.size) (by have := HPB.out; omega) (by have := HPB.out; show _ ≤ fb; omega) (by have := HPB.out; omega) (by have := HPB.out; omega) hq hk)
    refine ⟨_, rfl, ?_⟩
    clear hst hrep3 HXS HCH HGQ HREP hs
    simp only [Act.put, List.setIfInBounds_toArray, List.set_cons_zero, List.set_cons_succ]
    refine seq_value (w1 := w3) (.bool true) rfl rfl rfl (by go_simp) ?_
    simp only [Act.put, List.setIfInBounds_toArray, List.set_cons_zero, List.set_cons_succ]
    refine seq_value (w1 := w3) (.bool true) rfl rfl rfl (by go_simp) ?_
    simp only [Act.put, List.setIfInBounds_toArray, List.set_cons_zero, List.set_cons_succ]
    refine seq_nil ?_
    go_wp2
    exact HQ'.out _ _ ⟨rfl, HGO.out⟩
end Go.Proofs.Yteeficpjggimcaa

/- chain: replace, where nobody is in the way. Printed by p_chain3.py. -/
namespace Go.Proofs.Yteeficpjggimcaa
open Go.RowKit Go.Proofs.YteeficpjggimcaaW.PrintWords Go.Proofs.YteeficpjggimcaaW.PrintLast
set_option linter.unusedVariables false
set_option linter.unusedSimpArgs false

set_option maxHeartbeats 4000000 in
set_option maxRecDepth 100000 in
theorem Chn.replace {B B' : Nat} {w : World} {g : Option Nat} {ks : List Int} {R : Nat → Option RecO} {X : Nat → Option ScxO} {pre post : List Nat} {l1 l2 : List (Int × Int)} {p n n2 : Nat} {e1 : Int × Int} (h : Chn B w R X (pre ++ p :: n :: n2 :: post) (l1 ++ e1 :: l2)) (hg : GAtI w B' g ks) (hB : B' ≤ w.heap.size) (hBB : B ≤ w.heap.size) (hl : ks.length ≤ 700000000) (hpre : pre.length = l1.length) (k v : Int) :
    Calls Try.prog 29 #[gvI g, .pointer (some ⟨p, 0, none⟩), .pointer (some ⟨n, 0, none⟩), .agg #[.int .i64 k, .int .i64 v]] w fun e w' => e = .returned (.bool true) ∧ ChStep B B' g w R X (pre ++ p :: n :: n2 :: post) (ks ++ (List.replicate 12 1 ++ [5, 5, 2, 2, 5, 2])) (l1 ++ (k, v) :: l2) w' := by
  refine calls_hide fun Q HQ => ?_
  have HQ' := Lib.hid HQ
  have hp : (pre ++ p :: n :: n2 :: post)[pre.length]? = some p := by simp
  have hn : (pre ++ p :: n :: n2 :: post)[pre.length + 1]? = some n := by rw [List.getElem?_append_right (by omega)]; simp
  have hn2 : (pre ++ p :: n :: n2 :: post)[pre.length + 1 + 1]? = some n2 := by rw [List.getElem?_append_right (by omega), show pre.length + 1 + 1 - pre.length = 2 by omega]; rfl
  have hpn : p ≠ n := fun e => by
    have := h.nd
    rw [List.nodup_append] at this
    have := (List.nodup_cons.1 this.2.1).1
    exact this (by simp [e])
  obtain ⟨fb0, x, o, hb, hx, hst⟩ := h.at_ pre.length p hp
  obtain ⟨fb1, x2, o2, hbn, hx2, hst2⟩ := h.at_ (pre.length + 1) n hn
  rw [hn] at hb
  rw [hn2] at hbn
  simp only [Option.toList_some, List.map_cons, List.map_nil] at hb hbn
  have HRB := Lib.hid hb
  have HRN := Lib.hid hbn
  have HX2 := Lib.hid (And.intro hx2 hst2)
  have HPRE := Lib.hid hpre
  have HPN := Lib.hid hpn
  have HB := Lib.hid hB
  have HBB := Lib.hid hBB
  have HS := Lib.hid (Step.refl hg (fun _ => False))
  have HC := Lib.hid h
  have HSZ := Lib.hid (Nat.le_refl w.heap.size)
  have HXX := Lib.hid (And.intro hx hst)
  clear HQ h hg hb hbn hx hst hx2 hst2 hp hn hn2 hpre hpn
  have hbw := (Below.refl w.heap.size w).alloc (Nat.le_refl _) (.cells #[.int .i64 k, .int .i64 v] TPA)
  have HS_ := Lib.hid (step_new HS.out (Fr.of_below0 (S := fun _ => False) hbw) (fun _ hk => hk.elim))
  have HC_ := Lib.hid (HC.out.below hbw)
  have HSZ_ := Lib.hid (Nat.le_trans HSZ.out hbw.size)
  have HKP := Lib.hid (Blk.new w TPA [.int .i64 k, .int .i64 v])
  clear hbw HS HC HSZ 
  have HS := HS_
  clear HS_
  have HC := HC_
  clear HC_
  have HSZ := HSZ_
  clear HSZ_
  go_enter Try.func29, Try.ntmps29
  have HWS := Lib.hid (rfl : w.heap.size = w.heap.size)
  have HL := Lib.hid (HC.out.linkTo HS.out.gate (Nat.le_trans HB.out HSZ.out) (by omega) HRB.out HXX.out.1 HXX.out.2)
  go_wp2_with fail
  generalize w.alloc (.cells #[.int .i64 k, .int .i64 v] 56) = w1 at *
  generalize hpb : w.heap.size = pb at *
  have HPB := Lib.hid hpb
  clear hpb HWS
  refine HL.out.mono ?_
  rintro e w2 ⟨A9, c9, rfl, ho, hs, hc⟩
  have HKP_ := Lib.hid (hs.blk HS.out.gate HKP.out (by decide) (by decide) (fun x => x))
  have HS_ := Lib.hid (HS.out.trans hs (fun _ _ x => x))
  have HSZ_ := Lib.hid (Nat.le_trans HSZ.out hs.fr.size)
  have HC_ := Lib.hid hc
  have HO9 := Lib.hid ho
  clear ho hs hc HL HS HC HSZ HKP
  have HS := HS_
  clear HS_
  have HC := HC_
  clear HC_
  have HSZ := HSZ_
  clear HSZ_
  have HKP := HKP_
  clear HKP_
  obtain ⟨a9, e9, _, _⟩ := owns_one HO9.out
  subst e9
  have hbw := (Below.refl w2.heap.size w2).alloc (Nat.le_refl _) (.cells #[.pointer (some ⟨p, 0, none⟩), .pointer (some ⟨x, 0, none⟩), .slice (some ⟨a9, 0, none⟩) 1 c9] TLK)
  have HKP_ := Lib.hid (HKP.out.below hbw HKP.out.lt)
  have HO9_ := Lib.hid (owns_fr HO9.out (Fr.of_below0 (S := fun _ => False) hbw) (fun _ _ => id))
  have HS_ := Lib.hid (step_new HS.out (Fr.of_below0 (S := fun _ => False) hbw) (fun _ hk => hk.elim))
  have HC_ := Lib.hid (HC.out.below hbw)
  have HSZ_ := Lib.hid (Nat.le_trans HSZ.out hbw.size)
  have HNP := Lib.hid (Blk.new w2 TLK [.pointer (some ⟨p, 0, none⟩), .pointer (some ⟨x, 0, none⟩), .slice (some ⟨a9, 0, none⟩) 1 c9])
  clear hbw HS HC HSZ HKP HO9
  have HS := HS_
  clear HS_
  have HC := HC_
  clear HC_
  have HSZ := HSZ_
  clear HSZ_
  have HKP := HKP_
  clear HKP_
  have HO9 := HO9_
  clear HO9_
  have HL := Lib.hid (HC.out.link HS.out.gate (Nat.le_trans HB.out HSZ.out) (by simp; omega) HRN.out (by simp) HX2.out.1 HX2.out.2)
  go_wp2_with fail
  generalize w2.alloc (.cells #[.pointer (some ⟨p, 0, none⟩), .pointer (some ⟨x, 0, none⟩), .slice (some ⟨a9, 0, none⟩) 1 c9] 95) = w3 at *
  generalize w2.heap.size = nb at *
  refine HL.out.mono ?_
  rintro e w4 ⟨A8, c8, rfl, ho, hs, hc⟩
  have HKP_ := Lib.hid (hs.blk HS.out.gate HKP.out (by decide) (by decide) (fun x => x))
  have HNP_ := Lib.hid (hs.blk HS.out.gate HNP.out (by decide) (by decide) (fun x => x))
  have HO9_ := Lib.hid (own_step HO9.out HS.out.gate hs (by decide) (by decide))
  have HS_ := Lib.hid (HS.out.trans hs (fun _ _ x => x))
  have HSZ_ := Lib.hid (Nat.le_trans HSZ.out hs.fr.size)
  have HC_ := Lib.hid hc
  have HO8 := Lib.hid ho
  clear ho hs hc HL HS HC HSZ HKP HNP HO9
  have HS := HS_
  clear HS_
  have HC := HC_
  clear HC_
  have HSZ := HSZ_
  clear HSZ_
  have HKP := HKP_
  clear HKP_
  have HNP := HNP_
  clear HNP_
  have HO9 := HO9_
  clear HO9_
  simp only [List.length_cons, List.length_nil, Nat.zero_add, List.map_cons, List.map_nil] at HO8
  obtain ⟨a8, e8, _, _⟩ := owns_one HO8.out
  subst e8
  have hbw := (Below.refl w4.heap.size w4).alloc (Nat.le_refl _) (.cells #[.pointer (some ⟨n, 0, none⟩), .pointer (some ⟨x2, 0, none⟩), .slice (some ⟨a8, 0, none⟩) 1 c8] TLK)
  have HKP_ := Lib.hid (HKP.out.below hbw HKP.out.lt)
  have HNP_ := Lib.hid (HNP.out.below hbw HNP.out.lt)
  have HO9_ := Lib.hid (owns_fr HO9.out (Fr.of_below0 (S := fun _ => False) hbw) (fun _ _ => id))
  have HO8_ := Lib.hid (owns_fr HO8.out (Fr.of_below0 (S := fun _ => False) hbw) (fun _ _ => id))
  have HS_ := Lib.hid (step_new HS.out (Fr.of_below0 (S := fun _ => False) hbw) (fun _ hk => hk.elim))
  have HC_ := Lib.hid (HC.out.below hbw)
  have HSZ_ := Lib.hid (Nat.le_trans HSZ.out hbw.size)
  have HNN := Lib.hid (Blk.new w4 TLK [.pointer (some ⟨n, 0, none⟩), .pointer (some ⟨x2, 0, none⟩), .slice (some ⟨a8, 0, none⟩) 1 c8])
  clear hbw HS HC HSZ HKP HNP HO9 HO8
  have HS := HS_
  clear HS_
  have HC := HC_
  clear HC_
  have HSZ := HSZ_
  clear HSZ_
  have HKP := HKP_
  clear HKP_
  have HNP := HNP_
  clear HNP_
  have HO9 := HO9_
  clear HO9_
  have HO8 := HO8_
  clear HO8_
  go_wp2_with fail
  generalize w4.alloc (.cells #[.pointer (some ⟨n, 0, none⟩), .pointer (some ⟨x2, 0, none⟩), .slice (some ⟨a8, 0, none⟩) 1 c8] 95) = w5 at *
  generalize w4.heap.size = nc at *
  have HKPQ : Hid (Blk w5.drew pb TPA [.int .i64 k, .int .i64 v]) := HKP
  have HNPQ : Hid (Blk w5.drew nb TLK [.pointer (some ⟨p, 0, none⟩), .pointer (some ⟨x, 0, none⟩), .slice (some ⟨a9, 0, none⟩) 1 c9]) := HNP
  have HNNQ : Hid (Blk w5.drew nc TLK [.pointer (some ⟨n, 0, none⟩), .pointer (some ⟨x2, 0, none⟩), .slice (some ⟨a8, 0, none⟩) 1 c8]) := HNN
  have HO9Q := Lib.hid (owns_fr HO9.out (Fr.of_below0 (S := fun _ => False) (Below.refl w5.heap.size w5).drew) (fun _ _ => id))
  have HO8Q := Lib.hid (owns_fr HO8.out (Fr.of_below0 (S := fun _ => False) (Below.refl w5.heap.size w5).drew) (fun _ _ => id))
  have HSQ := Lib.hid (step_new HS.out (Fr.of_below0 (S := fun _ => False) (Below.refl w5.heap.size w5).drew) (fun _ hk => hk.elim))
  have HCQ := Lib.hid (HC.out.below (Below.refl w5.heap.size w5).drew)
  have HSZQ : Hid (pb ≤ w5.drew.heap.size) := HSZ
  clear HS HC HSZ HO9 HO8 HKP HNP HNN
  refine start_ (n := 17) (S := fun _ => True) (ds := []) #[false, false, false, false, false, false, false, false, false, false, false, false, false, false, false, false, false] (by kernel_rfl) rfl rfl trivial (fun _ => ?_)
  generalize w5.drew = wq at *
  obtain ⟨_, e9, hr9, _⟩ := owns_one HO9Q.out
  cases e9
  obtain ⟨_, e8, hr8, _⟩ := owns_one HO8Q.out
  cases e8
  have HLP0 := Lib.hid (fun w' (hb : Below wq.heap.size wq w') => pw_cell_below (w := wq) hb (show wq.cell? ⟨nb, 0, none⟩ = some (.pointer (some ⟨p, 0, none⟩)) from HNPQ.out.cell 0))
  have HLP1 := Lib.hid (fun w' (hb : Below wq.heap.size wq w') => pw_cell_below (w := wq) hb (show wq.cell? ⟨nb, 1, none⟩ = some (.pointer (some ⟨x, 0, none⟩)) from HNPQ.out.cell 1))
  have HLP2 := Lib.hid (fun w' (hb : Below wq.heap.size wq w') => pw_cell_below (w := wq) hb (show wq.cell? ⟨nb, 2, none⟩ = some (.slice (some ⟨a9, 0, none⟩) 1 c9) from HNPQ.out.cell 2))
  have HLN0 := Lib.hid (fun w' (hb : Below wq.heap.size wq w') => pw_cell_below (w := wq) hb (show wq.cell? ⟨nc, 0, none⟩ = some (.pointer (some ⟨n, 0, none⟩)) from HNNQ.out.cell 0))
  have HLN1 := Lib.hid (fun w' (hb : Below wq.heap.size wq w') => pw_cell_below (w := wq) hb (show wq.cell? ⟨nc, 1, none⟩ = some (.pointer (some ⟨x2, 0, none⟩)) from HNNQ.out.cell 1))
  have HLN2 := Lib.hid (fun w' (hb : Below wq.heap.size wq w') => pw_cell_below (w := wq) hb (show wq.cell? ⟨nc, 2, none⟩ = some (.slice (some ⟨a8, 0, none⟩) 1 c8) from HNNQ.out.cell 2))
  have HPB0 := Lib.hid (fun w' (hb : Below wq.heap.size wq w') => pw_cell_below (w := wq) hb (show wq.cell? ⟨pb, 0, none⟩ = some (.int .i64 k) from HKPQ.out.cell 0))
  have HPB1 := Lib.hid (fun w' (hb : Below wq.heap.size wq w') => pw_cell_below (w := wq) hb (show wq.cell? ⟨pb, 1, none⟩ = some (.int .i64 v) from HKPQ.out.cell 1))
  have HR8 := Lib.hid (fun w' (hb : Below wq.heap.size wq w') => pw_cell_below (w := wq) hb (show wq.cell? ⟨a8, 0, none⟩ = some (.pointer (some ⟨n2, 0, none⟩)) from hr8))
  have HR9 := Lib.hid (fun w' (hb : Below wq.heap.size wq w') => pw_cell_below (w := wq) hb (show wq.cell? ⟨a9, 0, none⟩ = some (pv (some n)) from hr9))
  clear hr8 hr9
  have HNK := Lib.hid (show ∀ p ∈ [some n2], Ok R p from fun p hp => by
    rw [List.mem_singleton.1 hp]
    exact fun b e => by cases e; exact HCQ.out.rep.kf _ _ HRN.out n2 (by simp))
  have HNO := Lib.hid (show Ok R (some n) from fun b e => by cases e; exact HCQ.out.rep.kf _ _ HRB.out n (by simp))
  refine grow_region (md := .any) (w0 := wq) (B := [0, 1, 3, 3, 3, 27, 3, 3, 3, 259, 771, 1795, 3843, 8067, 16383, 32767, 65535]) [(0, 27), (1, 28), (2, 29), (3, 30), (4, 31), (5, 32), (6, 33), (7, 34), (8, 35), (9, 36), (10, 37), (11, 38), (12, 39), (13, 40)] [14, 15, 16] (fun i => [].contains i) (fun i => 0) (fun i V w' => match i with
      | 0 => V 0 = .bool true
      | 1 => V 1 = .bool true
      | 2 => V 2 = gvI g
      | 3 => V 3 = .agg #[.pointer (some ⟨p, 0, none⟩), .pointer (some ⟨x, 0, none⟩), .slice (some ⟨a9, 0, none⟩) 1 c9]
      | 4 => V 4 = .agg #[.pointer (some ⟨n, 0, none⟩), .pointer (some ⟨x2, 0, none⟩), .slice (some ⟨a8, 0, none⟩) 1 c8]
      | 5 => ∃ s, V 5 = .slice (some ⟨s, 0, none⟩) 2 2 ∧ Blk w' s TLK [.pointer (some ⟨p, 0, none⟩), .pointer (some ⟨x, 0, none⟩), .slice (some ⟨a9, 0, none⟩) 1 c9, .pointer (some ⟨n, 0, none⟩), .pointer (some ⟨x2, 0, none⟩), .slice (some ⟨a8, 0, none⟩) 1 c8]
      | 6 => ∃ s, V 6 = .slice (some ⟨s, 0, none⟩) 2 2 ∧ Blk w' s 4 [.bool false, .bool true]
      | 7 => V 7 = .agg #[.int .i64 k, .int .i64 v]
      | 8 => V 8 = .pointer (some ⟨nc, 2, none⟩)
      | 9 => V 9 = .slice (some ⟨a8, 0, none⟩) 1 c8
      | 10 => V 10 = .pointer (some ⟨a8, 0, none⟩)
      | 11 => V 11 = .pointer (some ⟨n2, 0, none⟩)
      | 12 => ∃ s, V 12 = .slice (some ⟨s, 0, none⟩) 1 1 ∧ Blk w' s THRapiPair [.pointer (some ⟨n2, 0, none⟩)]
      | 13 => ∃ b fb xb, V 13 = pv (some b) ∧ wq.heap.size ≤ b ∧ wq.heap.size ≤ fb ∧ wq.heap.size ≤ xb ∧ RepapiPair w' (upd R b ⟨[.int .i64 k, .int .i64 v], fb, [some n2], some xb, false⟩) (upd X xb firstO)
      | _ => True) rfl (by kernel_rfl) (by kernel_rfl) (by kernel_rfl) (by kernel_rfl) (by kernel_rfl) (by kernel_rfl) (by kernel_rfl) (by kernel_rfl) ?_ ?_ ?_ ?_
  · intro e he V V' w' h hp
    simp only [List.mem_cons, List.not_mem_nil, or_false] at he
    rcases he with rfl | rfl | rfl | rfl | rfl | rfl | rfl | rfl | rfl | rfl | rfl | rfl | rfl | rfl
    · simp only [← h 0 (.inl rfl)]; exact hp
    · simp only [← h 1 (.inl rfl)]; exact hp
    · simp only [← h 2 (.inl rfl)]; exact hp
    · simp only [← h 3 (.inl rfl)]; exact hp
    · simp only [← h 4 (.inl rfl)]; exact hp
    · simp only [← h 5 (.inl rfl)]; exact hp
    · simp only [← h 6 (.inl rfl)]; exact hp
    · simp only [← h 7 (.inl rfl)]; exact hp
    · simp only [← h 8 (.inl rfl)]; exact hp
    · simp only [← h 9 (.inl rfl)]; exact hp
    · simp only [← h 10 (.inl rfl)]; exact hp
    · simp only [← h 11 (.inl rfl)]; exact hp
    · simp only [← h 12 (.inl rfl)]; exact hp
    · simp only [← h 13 (.inl rfl)]; exact hp
  · intro e he V w1 w2 hp hb
    simp only [List.mem_cons, List.not_mem_nil, or_false] at he
    rcases he with rfl | rfl | rfl | rfl | rfl | rfl | rfl | rfl | rfl | rfl | rfl | rfl | rfl | rfl
    · exact hp
    · exact hp
    · exact hp
    · exact hp
    · exact hp
    · exact let ⟨s, h1, h2⟩ := hp; ⟨s, h1, (Fr.of_below0 (S := fun _ => False) hb).blk h2 id⟩
    · exact let ⟨s, h1, h2⟩ := hp; ⟨s, h1, (Fr.of_below0 (S := fun _ => False) hb).blk h2 id⟩
    · exact hp
    · exact hp
    · exact hp
    · exact hp
    · exact hp
    · exact let ⟨s, h1, h2⟩ := hp; ⟨s, h1, (Fr.of_below0 (S := fun _ => False) hb).blk h2 id⟩
    · exact let ⟨b, fb, xb, h1, h2, h3, h4, h5⟩ := hp; ⟨b, fb, xb, h1, h2, h3, h4, h5.below hb⟩
  · intro e he
    simp only [List.mem_cons, List.not_mem_nil, or_false] at he
    rcases he with rfl | rfl | rfl | rfl | rfl | rfl | rfl | rfl | rfl | rfl | rfl | rfl | rfl | rfl
    · intro V a w' hd ho hB
      have e10 : a.tmps[10]? = some (.bool true) := (ho 10 (by decide)).trans rfl
      refine ⟨_, rfl, rfl, fun K hK => ?_⟩
      clear hd ho
      refine value_ (w1 := w') (v := .bool true) rfl rfl ?_ (hK.out _ _ (Below.refl _ _) (setV_self _ _ _) (fun h => absurd h (by decide)))
      go_simp
    · intro V a w' hd ho hB
      obtain ⟨e27, p27, o27⟩ := hd (0, 27) (by decide) (by kernel_rfl)
      rw [show V 0 = .bool true from p27] at e27
      refine ⟨_, rfl, rfl, fun K hK => ?_⟩
      clear hd ho
      refine value_ (w1 := w') (v := .bool true) rfl rfl ?_ (hK.out _ _ (Below.refl _ _) (setV_self _ _ _) (fun h => absurd h (by decide)))
      go_simp
    · intro V a w' hd ho hB
      have e0 : a.tmps[0]? = some (gvI g) := (ho 0 (by decide)).trans rfl
      obtain ⟨e28, p28, o28⟩ := hd (1, 28) (by decide) (by kernel_rfl)
      rw [show V 1 = .bool true from p28] at e28
      refine ⟨_, rfl, rfl, fun K hK => ?_⟩
      clear hd ho
      refine value_ (w1 := w') (v := gvI g) (wanted_true rfl rfl e28) rfl ?_ (hK.out _ _ (Below.refl _ _) (setV_self _ _ _) (fun h => absurd h (by decide)))
      go_simp
    · intro V a w' hd ho hB
      have e9 : a.tmps[9]? = some (.pointer (some ⟨nb, 0, none⟩)) := (ho 9 (by decide)).trans rfl
      obtain ⟨e28, p28, o28⟩ := hd (1, 28) (by decide) (by kernel_rfl)
      rw [show V 1 = .bool true from p28] at e28
      have hc0 := HLP0.out w' hB
      have hc1 := HLP1.out w' hB
      have hc2 := HLP2.out w' hB
      refine ⟨_, rfl, rfl, fun K hK => ?_⟩
      clear hd ho
      refine value_ (w1 := w') (v := .agg #[.pointer (some ⟨p, 0, none⟩), .pointer (some ⟨x, 0, none⟩), .slice (some ⟨a9, 0, none⟩) 1 c9]) (wanted_true rfl rfl e28) rfl ?_ (hK.out _ _ (Below.refl _ _) (setV_self _ _ _) (fun h => absurd h (by decide)))
      go_simp
    · intro V a w' hd ho hB
      have e11 : a.tmps[11]? = some (.pointer (some ⟨nc, 0, none⟩)) := (ho 11 (by decide)).trans rfl
      obtain ⟨e28, p28, o28⟩ := hd (1, 28) (by decide) (by kernel_rfl)
      rw [show V 1 = .bool true from p28] at e28
      have hc0 := HLN0.out w' hB
      have hc1 := HLN1.out w' hB
      have hc2 := HLN2.out w' hB
      refine ⟨_, rfl, rfl, fun K hK => ?_⟩
      clear hd ho
      refine value_ (w1 := w') (v := .agg #[.pointer (some ⟨n, 0, none⟩), .pointer (some ⟨x2, 0, none⟩), .slice (some ⟨a8, 0, none⟩) 1 c8]) (wanted_true rfl rfl e28) rfl ?_ (hK.out _ _ (Below.refl _ _) (setV_self _ _ _) (fun h => absurd h (by decide)))
      go_simp
    · intro V a w' hd ho hB
      obtain ⟨e30, p30, o30⟩ := hd (3, 30) (by decide) (by kernel_rfl)
      rw [show V 3 = .agg #[.pointer (some ⟨p, 0, none⟩), .pointer (some ⟨x, 0, none⟩), .slice (some ⟨a9, 0, none⟩) 1 c9] from p30] at e30
      obtain ⟨e31, p31, o31⟩ := hd (4, 31) (by decide) (by kernel_rfl)
      rw [show V 4 = .agg #[.pointer (some ⟨n, 0, none⟩), .pointer (some ⟨x2, 0, none⟩), .slice (some ⟨a8, 0, none⟩) 1 c8] from p31] at e31
      obtain ⟨e28, p28, o28⟩ := hd (1, 28) (by decide) (by kernel_rfl)
      rw [show V 1 = .bool true from p28] at e28
      refine ⟨_, rfl, rfl, fun K hK => ?_⟩
      refine value_ (w1 := w'.alloc (.cells #[.pointer (some ⟨p, 0, none⟩), .pointer (some ⟨x, 0, none⟩), .slice (some ⟨a9, 0, none⟩) 1 c9, .pointer (some ⟨n, 0, none⟩), .pointer (some ⟨x2, 0, none⟩), .slice (some ⟨a8, 0, none⟩) 1 c8] TLK)) (v := .slice (some ⟨w'.heap.size, 0, none⟩) 2 2) (wanted_true rfl rfl e28) rfl ?_ (hK.out _ _ ((Below.refl _ _).alloc (Nat.le_refl _) _) ⟨w'.heap.size, setV_self _ _ _, Blk.new w' TLK [.pointer (some ⟨p, 0, none⟩), .pointer (some ⟨x, 0, none⟩), .slice (some ⟨a9, 0, none⟩) 1 c9, .pointer (some ⟨n, 0, none⟩), .pointer (some ⟨x2, 0, none⟩), .slice (some ⟨a8, 0, none⟩) 1 c8]⟩ (fun h => absurd h (by decide)))
      clear hd ho hK
      go_simp
    · intro V a w' hd ho hB
      obtain ⟨e28, p28, o28⟩ := hd (1, 28) (by decide) (by kernel_rfl)
      rw [show V 1 = .bool true from p28] at e28
      refine ⟨_, rfl, rfl, fun K hK => ?_⟩
      refine value_ (w1 := w'.alloc (.cells #[.bool false, .bool true] 4)) (v := .slice (some ⟨w'.heap.size, 0, none⟩) 2 2) (wanted_true rfl rfl e28) rfl ?_ (hK.out _ _ ((Below.refl _ _).alloc (Nat.le_refl _) _) ⟨w'.heap.size, setV_self _ _ _, Blk.new w' 4 [.bool false, .bool true]⟩ (fun h => absurd h (by decide)))
      clear hd ho hK
      go_simp
    · intro V a w' hd ho hB
      have e7 : a.tmps[7]? = some (.pointer (some ⟨pb, 0, none⟩)) := (ho 7 (by decide)).trans rfl
      obtain ⟨e28, p28, o28⟩ := hd (1, 28) (by decide) (by kernel_rfl)
      rw [show V 1 = .bool true from p28] at e28
      have hc0 := HPB0.out w' hB
      have hc1 := HPB1.out w' hB
      refine ⟨_, rfl, rfl, fun K hK => ?_⟩
      clear hd ho
      refine value_ (w1 := w') (v := .agg #[.int .i64 k, .int .i64 v]) (wanted_true rfl rfl e28) rfl ?_ (hK.out _ _ (Below.refl _ _) (setV_self _ _ _) (fun h => absurd h (by decide)))
      go_simp
    · intro V a w' hd ho hB
      have e11 : a.tmps[11]? = some (.pointer (some ⟨nc, 0, none⟩)) := (ho 11 (by decide)).trans rfl
      obtain ⟨e28, p28, o28⟩ := hd (1, 28) (by decide) (by kernel_rfl)
      rw [show V 1 = .bool true from p28] at e28
      refine ⟨_, rfl, rfl, fun K hK => ?_⟩
      clear hd ho
      refine value_ (w1 := w') (v := .pointer (some ⟨nc, 2, none⟩)) (wanted_true rfl rfl e28) rfl ?_ (hK.out _ _ (Below.refl _ _) (setV_self _ _ _) (fun h => absurd h (by decide)))
      go_simp
    · intro V a w' hd ho hB
      obtain ⟨e35, p35, o35⟩ := hd (8, 35) (by decide) (by kernel_rfl)
      rw [show V 8 = .pointer (some ⟨nc, 2, none⟩) from p35] at e35
      obtain ⟨e28, p28, o28⟩ := hd (1, 28) (by decide) (by kernel_rfl)
      rw [show V 1 = .bool true from p28] at e28
      have hc2 := HLN2.out w' hB
      refine ⟨_, rfl, rfl, fun K hK => ?_⟩
      clear hd ho
      refine value_ (w1 := w') (v := .slice (some ⟨a8, 0, none⟩) 1 c8) (wanted_true rfl rfl e28) rfl ?_ (hK.out _ _ (Below.refl _ _) (setV_self _ _ _) (fun h => absurd h (by decide)))
      go_simp
    · intro V a w' hd ho hB
      obtain ⟨e36, p36, o36⟩ := hd (9, 36) (by decide) (by kernel_rfl)
      rw [show V 9 = .slice (some ⟨a8, 0, none⟩) 1 c8 from p36] at e36
      obtain ⟨e28, p28, o28⟩ := hd (1, 28) (by decide) (by kernel_rfl)
      rw [show V 1 = .bool true from p28] at e28
      refine ⟨_, rfl, rfl, fun K hK => ?_⟩
      clear hd ho
      refine value_ (w1 := w') (v := .pointer (some ⟨a8, 0, none⟩)) (wanted_true rfl rfl e28) rfl ?_ (hK.out _ _ (Below.refl _ _) (setV_self _ _ _) (fun h => absurd h (by decide)))
      go_simp
    · intro V a w' hd ho hB
      obtain ⟨e37, p37, o37⟩ := hd (10, 37) (by decide) (by kernel_rfl)
      rw [show V 10 = .pointer (some ⟨a8, 0, none⟩) from p37] at e37
      obtain ⟨e28, p28, o28⟩ := hd (1, 28) (by decide) (by kernel_rfl)
      rw [show V 1 = .bool true from p28] at e28
      have hc8 := HR8.out w' hB
      refine ⟨_, rfl, rfl, fun K hK => ?_⟩
      clear hd ho
      refine value_ (w1 := w') (v := .pointer (some ⟨n2, 0, none⟩)) (wanted_true rfl rfl e28) rfl ?_ (hK.out _ _ (Below.refl _ _) (setV_self _ _ _) (fun h => absurd h (by decide)))
      go_simp
    · intro V a w' hd ho hB
      obtain ⟨e38, p38, o38⟩ := hd (11, 38) (by decide) (by kernel_rfl)
      rw [show V 11 = .pointer (some ⟨n2, 0, none⟩) from p38] at e38
      obtain ⟨e28, p28, o28⟩ := hd (1, 28) (by decide) (by kernel_rfl)
      rw [show V 1 = .bool true from p28] at e28
      refine ⟨_, rfl, rfl, fun K hK => ?_⟩
      refine value_ (w1 := w'.alloc (.cells #[.pointer (some ⟨n2, 0, none⟩)] THRapiPair)) (v := .slice (some ⟨w'.heap.size, 0, none⟩) 1 1) (wanted_true rfl rfl e28) rfl ?_ (hK.out _ _ ((Below.refl _ _).alloc (Nat.le_refl _) _) ⟨w'.heap.size, setV_self _ _ _, Blk.new w' THRapiPair [.pointer (some ⟨n2, 0, none⟩)]⟩ (fun h => absurd h (by decide)))
      clear hd ho hK
      go_simp
    · intro V a w' hd ho hB
      obtain ⟨e34, p34, o34⟩ := hd (7, 34) (by decide) (by kernel_rfl)
      rw [show V 7 = .agg #[.int .i64 k, .int .i64 v] from p34] at e34
      obtain ⟨e39, p39, o39⟩ := hd (12, 39) (by decide) (by kernel_rfl)
      obtain ⟨e28, p28, o28⟩ := hd (1, 28) (by decide) (by kernel_rfl)
      rw [show V 1 = .bool true from p28] at e28
      refine ⟨_, rfl, rfl, fun K hK => ?_⟩
      obtain ⟨s8, hs8, hb8⟩ := p39
      rw [hs8] at e39
      have hrow9 := Row1.of_blk (us := [pv (some n2)]) (rest := []) hb8
      refine goes_ Try.func22 (by kernel_rfl) rfl #[.agg #[.int .i64 k, .int .i64 v], .slice (some ⟨s8, 0, none⟩) 1 1] (wanted_true rfl rfl e28) rfl rfl (by simp [eval_of e34, eval_of e39]) ?_
      refine (new_apiPair _ _ _ _ [some n2] R X w' (HCQ.out.below hB).rep hrow9 (fun p hp => HNK.out p hp) (by simp)).mono ?_
      rintro e w2 ⟨b, fb, xb, rfl, h1, h2, h3, hbl, hrep⟩
      exact ⟨_, rfl, hK.out _ _ hbl ⟨b, fb, xb, setV_self _ _ _, Nat.le_trans hB.size h1, Nat.le_trans hB.size h2, Nat.le_trans hB.size h3, hrep⟩ (fun h => absurd h (by decide))⟩
  · intro V a w' hfr hB hP hap hlt
    have P0 := hP (0, 27) (by decide)
    have P1 := hP (1, 28) (by decide)
    have P2 := hP (2, 29) (by decide)
    have P3 := hP (3, 30) (by decide)
    have P4 := hP (4, 31) (by decide)
    have P5 := hP (5, 32) (by decide)
    have P6 := hP (6, 33) (by decide)
    have P7 := hP (7, 34) (by decide)
    have P8 := hP (8, 35) (by decide)
    have P9 := hP (9, 36) (by decide)
    have P10 := hP (10, 37) (by decide)
    have P11 := hP (11, 38) (by decide)
    have P12 := hP (12, 39) (by decide)
    have P13 := hP (13, 40) (by decide)
    clear hP
    have P0 : V 0 = .bool true := P0
    have P1 : V 1 = .bool true := P1
    have P2 : V 2 = gvI g := P2
    obtain ⟨s4, hs4, hb4⟩ := P5
    obtain ⟨s5, hs5, hb5⟩ := P6
    obtain ⟨b, fb, xb, hs9, h1, h2, h3, hrep⟩ := P13
    have hBq := Nat.le_trans HBB.out HSZQ.out
    have hch := HCQ.out.addRec h1 h2 h3 hBq hrep
    have hgq := HSQ.out.gate.below0 hB (fun _ => False)
    have hplt := (HCQ.out.rep.recs _ _ HRB.out).1.lt
    have hnlt := (HCQ.out.rep.recs _ _ HRN.out).1.lt
    have hpb : p ≠ b := fun e => by omega
    have hnb : n ≠ b := fun e => by omega
    have hxs := hch.scx (y0 := ⟨p, x, some ⟨a9, 0, none⟩, 1, c9⟩) (L := [⟨n, x2, some ⟨a8, 0, none⟩, 1, c8⟩]) (Af := some ⟨s5, 0, none⟩) (cf := 2) (cl := 2) (ff := [false, true]) (a0 := a9) (n := some n) (p := some b) hgq.gate (by have := hB.size; have := HSZQ.out; have := HB.out; omega) (by simp; omega) (LkAt.two hb4) (by simp) (Row1.of_blk (us := [.bool false, .bool true]) (rest := []) hb5) (fun e => nomatch e) rfl rfl Nat.zero_lt_one (HR9.out w' hB) ((upd_ne _ _ hpb).trans HRB.out) rfl (HNO.out.upd _ _) (Ok.of (upd_self _ _ _)) (by simp [HPN.out]) (fun y hy => by
      rcases List.mem_cons.1 hy with rfl | hy
      · exact ⟨_, (upd_ne _ _ hpb).trans HRB.out, rfl⟩
      · cases List.mem_singleton.1 hy; exact ⟨_, (upd_ne _ _ hnb).trans HRN.out, rfl⟩)
    have HXS := Lib.hid hxs
    have HCH := Lib.hid hch
    have HGQ := Lib.hid hgq
    have HBE := Lib.hid (And.intro (And.intro h1 h2) (And.intro h3 hB.size))
    have HREP := Lib.hid hrep
    clear hxs hch hgq hBq
    subst hfr
    simp only [vrows, List.map_cons, List.map_nil, putSel, if_true, Act.put, List.setIfInBounds_toArray, List.set_cons_zero, List.set_cons_succ, hs4, hs5, hs9, P0, P1, P2]
    refine ⟨_, rfl, ?_⟩
    refine goes_ Try.func42 (by kernel_rfl) rfl #[gvI g, .slice (some ⟨s4, 0, none⟩) 2 2, .slice (some ⟨s5, 0, none⟩) 2 2, .int .i64 0, .int .i64 0, pv (some b)] (wanted_true rfl rfl rfl) rfl rfl (by simp [Act.eval]) ?_
    refine HXS.out.mono ?_
    rintro e w9 ⟨rfl, s, v1, v2, v3, hs, hst, hrep3⟩
    have HGO := Lib.hid (show ChStep B B' g w R X (pre ++ p :: n :: n2 :: post) (ks ++ (List.replicate 12 1 ++ [5, 5, 2, 2, 5, 2])) (l1 ++ (k, v) :: l2) w9 from by
      obtain ⟨A0, a0, hA, hcut⟩ := psOf_cut l1
      have hbe := HBE.out
      have hsz := HSZQ.out
      have hfr := HCQ.out.fresh hbe.1.1
      have hsX : (upd X xb firstO) s = none := by
        cases hc : (upd X xb firstO) s with
        | none => rfl
        | some o1 => have := (HREP.out.scx _ _ hc).lt; omega
      refine ⟨_, _, pre ++ p :: b :: n2 :: post, ?_, ?_, Chn.splice (mid := [n]) (post := n2 :: post) (ff := [true]) (M := [e1]) (Z := l2 ++ [(0, 0)]) (d := (k, v)) HCH.out hfr (by simp; omega) (upd_self _ _ _) (upd_self _ _ _) (.inr rfl) hsX (by have := HBB.out; omega) rfl (by rw [hcut]; rfl) (by rw [hA]; exact HPRE.out.symm) rfl (by rw [hcut]; rfl) hrep3, by cases pre <;> rfl, fun q o1 hq => data_other hq (fun e => by have := (HCQ.out.rep.recs _ _ hq).1.lt; omega)⟩
      · have h5 := ((HSQ.out.mono (S' := RFoot R X) (fun _ _ hk => hk.elim)).trans HGQ.out (fun _ _ hk => hk.elim)).trans hst (fun i hi hk => by
          rcases hk with hk | hk
          · rcases List.mem_cons.1 hk with rfl | hk
            · exact .inl (by rw [HRB.out]; rfl)
            · rw [List.mem_singleton.1 hk]; exact .inl (by rw [HRN.out]; rfl)
          · exact .inr (.inl ⟨p, _, HRB.out, hk.symm⟩))
        simpa [List.append_assoc, List.replicate] using h5
      · intro q hq hk
        exact foot_other (n := w.heap.size) (by have := HPB.out; omega) (by have := HPB.out; show _ ≤ fb; omega) (by have := HPB.out; omega) (by have := HPB.out; omega) hq hk)
    refine ⟨_, rfl, ?_⟩
    clear hst hrep3 HXS HCH HGQ HREP hs
    simp only [Act.put, List.setIfInBounds_toArray, List.set_cons_zero, List.set_cons_succ]
    refine seq_value (w1 := w9) (.bool true) rfl rfl rfl (by go_simp) ?_
    simp only [Act.put, List.setIfInBounds_toArray, List.set_cons_zero, List.set_cons_succ]
    refine seq_value (w1 := w9) (.bool true) rfl rfl rfl (by go_simp) ?_
    simp only [Act.put, List.setIfInBounds_toArray, List.set_cons_zero, List.set_cons_succ]
    refine seq_nil ?_
    go_wp2
    exact HQ'.out _ _ ⟨rfl, HGO.out⟩
end Go.Proofs.Yteeficpjggimcaa

/- chain: remove, where nobody is in the way. Printed by p_chain3.py. -/
namespace Go.Proofs.Yteeficpjggimcaa
open Go.RowKit Go.Proofs.YteeficpjggimcaaW.PrintWords Go.Proofs.YteeficpjggimcaaW.PrintLast
set_option linter.unusedVariables false
set_option linter.unusedSimpArgs false

set_option maxHeartbeats 4000000 in
set_option maxRecDepth 100000 in
theorem Chn.remove {B B' : Nat} {w : World} {g : Option Nat} {ks : List Int} {R : Nat → Option RecO} {X : Nat → Option ScxO} {pre post : List Nat} {l1 l2 : List (Int × Int)} {p n m : Nat} {e1 : Int × Int} (h : Chn B w R X (pre ++ p :: n :: m :: post) (l1 ++ e1 :: l2)) (hg : GAtI w B' g ks) (hB : B' ≤ w.heap.size) (hBB : B ≤ w.heap.size) (hl : ks.length ≤ 700000000) (hpre : pre.length = l1.length) :
    Calls Try.prog 30 #[gvI g, .pointer (some ⟨p, 0, none⟩), .pointer (some ⟨n, 0, none⟩)] w fun e w' => e = .returned (.bool true) ∧ ChStep B B' g w R X (pre ++ p :: n :: m :: post) (ks ++ (List.replicate (17 + (if l2.length = 0 then 0 else 1)) 1 ++ [5, 5, 5, 2, 2, 2, 5, 2])) (l1 ++ l2) w' := by
  refine calls_hide fun Q HQ => ?_
  have HQ' := Lib.hid HQ
  have hp : (pre ++ p :: n :: m :: post)[pre.length]? = some p := by simp
  have hn : (pre ++ p :: n :: m :: post)[pre.length + 1]? = some n := by rw [List.getElem?_append_right (by omega)]; simp
  have hm : (pre ++ p :: n :: m :: post)[pre.length + 1 + 1]? = some m := by rw [List.getElem?_append_right (by omega), show pre.length + 1 + 1 - pre.length = 2 by omega]; rfl
  have hm2 : (pre ++ p :: n :: m :: post)[pre.length + 1 + 1 + 1]? = post.head? := by rw [List.getElem?_append_right (by omega), show pre.length + 1 + 1 + 1 - pre.length = 3 by omega, List.head?_eq_getElem?]; rfl
  have hpn : p ≠ n ∧ p ≠ m ∧ n ≠ m := by
    have := h.nd
    rw [List.nodup_append] at this
    have h1 := List.nodup_cons.1 this.2.1
    have h2 := List.nodup_cons.1 h1.2
    exact ⟨fun e => h1.1 (by simp [e]), fun e => h1.1 (by simp [e]), fun e => h2.1 (by simp [e])⟩
  obtain ⟨fb0, x, o, hb, hx, hst⟩ := h.at_ pre.length p hp
  obtain ⟨fb1, x2, o2, hbn, hx2, hst2⟩ := h.at_ (pre.length + 1) n hn
  obtain ⟨fb2, x3, o3, hbm, hx3, hst3⟩ := h.at_ (pre.length + 1 + 1) m hm
  rw [hn] at hb
  rw [hm] at hbn
  rw [hm2] at hbm
  have hps : (psOf (l1 ++ e1 :: l2)).getD (pre.length + 1 + 1) (0, 0) = (l2 ++ [(0, 0)]).getD 0 (0, 0) := by
    show ((0, 0) :: ((l1 ++ e1 :: l2) ++ [(0, 0)])).getD (pre.length + 1 + 1) (0, 0) = _
    rw [List.append_assoc, List.getD_cons_succ, List.getD_eq_getElem?_getD, List.getElem?_append_right (by omega), show pre.length + 1 - l1.length = 1 by omega]
    rfl
  rw [hps] at hbm
  have hfl : (post.head?.toList.map some).length = if l2.length = 0 then 0 else 1 := by
    have := h.len
    simp only [List.length_append, List.length_cons] at this
    have h2 : post.length = l2.length := by omega
    cases post with
    | nil => rw [if_pos (by simpa using h2.symm)]; rfl
    | cons y ys => rw [if_neg (by simp at h2; omega)]; rfl
  simp only [Option.toList_some, List.map_cons, List.map_nil] at hb hbn
  have HFE := Lib.hid (rfl : post.head?.toList.map some = post.head?.toList.map some)
  generalize hfl0 : post.head?.toList.map some = fl at hbm hfl HFE
  have HFL0 := Lib.hid hfl0
  have HFL := Lib.hid hfl
  have hfl5 : fl.length ≤ 1 := by rw [hfl]; split <;> omega
  generalize hd : (l2 ++ [(0, 0)]).getD 0 (0, 0) = d at hbm
  have HD := Lib.hid hd
  obtain ⟨k, v⟩ := d
  simp only at hbm
  have HRB := Lib.hid hb
  have HRN := Lib.hid hbn
  have HRM := Lib.hid hbm
  have HX2 := Lib.hid (And.intro hx2 hst2)
  have HX3 := Lib.hid (And.intro hx3 hst3)
  have HPRE := Lib.hid hpre
  have HPN := Lib.hid hpn
  have HB := Lib.hid hB
  have HBB := Lib.hid hBB
  have HS := Lib.hid (Step.refl hg (fun _ => False))
  have HC := Lib.hid h
  have HSZ := Lib.hid (Nat.le_refl w.heap.size)
  have HXX := Lib.hid (And.intro hx hst)
  clear HQ h hg hb hbn hbm hx hst hx2 hst2 hx3 hst3 hp hn hm hm2 hpre hpn hps hfl hd hfl0 HFE
  go_enter Try.func30, Try.ntmps30
  have HL := Lib.hid (HC.out.linkTo HS.out.gate (Nat.le_trans HB.out HSZ.out) (by omega) HRB.out HXX.out.1 HXX.out.2)
  go_wp2_with fail
  refine HL.out.mono ?_
  rintro e w1 ⟨A9, c9, rfl, ho, hs, hc⟩
  have HS_ := Lib.hid (HS.out.trans hs (fun _ _ x => x))
  have HSZ_ := Lib.hid (Nat.le_trans HSZ.out hs.fr.size)
  have HC_ := Lib.hid hc
  have HO9 := Lib.hid ho
  clear ho hs hc HL HS HC HSZ
  have HS := HS_
  clear HS_
  have HC := HC_
  clear HC_
  have HSZ := HSZ_
  clear HSZ_
  generalize hpb : w.heap.size = pb at *
  have HPB := Lib.hid hpb
  clear hpb
  obtain ⟨a9, e9, _, _⟩ := owns_one HO9.out
  subst e9
  have hbw := (Below.refl w1.heap.size w1).alloc (Nat.le_refl _) (.cells #[.pointer (some ⟨p, 0, none⟩), .pointer (some ⟨x, 0, none⟩), .slice (some ⟨a9, 0, none⟩) 1 c9] TLK)
  have HO9_ := Lib.hid (owns_fr HO9.out (Fr.of_below0 (S := fun _ => False) hbw) (fun _ _ => id))
  have HS_ := Lib.hid (step_new HS.out (Fr.of_below0 (S := fun _ => False) hbw) (fun _ hk => hk.elim))
  have HC_ := Lib.hid (HC.out.below hbw)
  have HSZ_ := Lib.hid (Nat.le_trans HSZ.out hbw.size)
  have HNP := Lib.hid (Blk.new w1 TLK [.pointer (some ⟨p, 0, none⟩), .pointer (some ⟨x, 0, none⟩), .slice (some ⟨a9, 0, none⟩) 1 c9])
  clear hbw HS HC HSZ HO9
  have HS := HS_
  clear HS_
  have HC := HC_
  clear HC_
  have HSZ := HSZ_
  clear HSZ_
  have HO9 := HO9_
  clear HO9_
  have HL := Lib.hid (HC.out.link HS.out.gate (Nat.le_trans HB.out HSZ.out) (by simp; omega) HRN.out (by simp) HX2.out.1 HX2.out.2)
  go_wp2_with fail
  generalize w1.alloc (.cells #[.pointer (some ⟨p, 0, none⟩), .pointer (some ⟨x, 0, none⟩), .slice (some ⟨a9, 0, none⟩) 1 c9] 95) = w2 at *
  generalize w1.heap.size = nb at *
  refine HL.out.mono ?_
  rintro e w3 ⟨A8, c8, rfl, ho, hs, hc⟩
  have HNP_ := Lib.hid (hs.blk HS.out.gate HNP.out (by decide) (by decide) (fun x => x))
  have HO9_ := Lib.hid (own_step HO9.out HS.out.gate hs (by decide) (by decide))
  have HS_ := Lib.hid (HS.out.trans hs (fun _ _ x => x))
  have HSZ_ := Lib.hid (Nat.le_trans HSZ.out hs.fr.size)
  have HC_ := Lib.hid hc
  have HO8 := Lib.hid ho
  clear ho hs hc HL HS HC HSZ HNP HO9
  have HS := HS_
  clear HS_
  have HC := HC_
  clear HC_
  have HSZ := HSZ_
  clear HSZ_
  have HNP := HNP_
  clear HNP_
  have HO9 := HO9_
  clear HO9_
  simp only [List.length_cons, List.length_nil, Nat.zero_add, List.map_cons, List.map_nil] at HO8
  obtain ⟨a8, e8, _, _⟩ := owns_one HO8.out
  subst e8
  have hbw := (Below.refl w3.heap.size w3).alloc (Nat.le_refl _) (.cells #[.pointer (some ⟨n, 0, none⟩), .pointer (some ⟨x2, 0, none⟩), .slice (some ⟨a8, 0, none⟩) 1 c8] TLK)
  have HNP_ := Lib.hid (HNP.out.below hbw HNP.out.lt)
  have HO9_ := Lib.hid (owns_fr HO9.out (Fr.of_below0 (S := fun _ => False) hbw) (fun _ _ => id))
  have HO8_ := Lib.hid (owns_fr HO8.out (Fr.of_below0 (S := fun _ => False) hbw) (fun _ _ => id))
  have HS_ := Lib.hid (step_new HS.out (Fr.of_below0 (S := fun _ => False) hbw) (fun _ hk => hk.elim))
  have HC_ := Lib.hid (HC.out.below hbw)
  have HSZ_ := Lib.hid (Nat.le_trans HSZ.out hbw.size)
  have HNN := Lib.hid (Blk.new w3 TLK [.pointer (some ⟨n, 0, none⟩), .pointer (some ⟨x2, 0, none⟩), .slice (some ⟨a8, 0, none⟩) 1 c8])
  clear hbw HS HC HSZ HNP HO9 HO8
  have HS := HS_
  clear HS_
  have HC := HC_
  clear HC_
  have HSZ := HSZ_
  clear HSZ_
  have HNP := HNP_
  clear HNP_
  have HO9 := HO9_
  clear HO9_
  have HO8 := HO8_
  clear HO8_
  have HL := Lib.hid (HC.out.link HS.out.gate (Nat.le_trans HB.out HSZ.out) (by simp; omega) HRM.out (by omega) HX3.out.1 HX3.out.2)
  have hk2 := HNN.out.cell 2
  simp only [List.getElem?_cons_zero, List.getElem?_cons_succ] at hk2
  obtain ⟨_, e8, hr8, _⟩ := owns_one HO8.out
  cases e8
  change _ = some (Value.pointer (some ⟨m, 0, none⟩)) at hr8
  go_wp2_with fail
  clear hk2 hr8
  generalize w3.alloc (.cells #[.pointer (some ⟨n, 0, none⟩), .pointer (some ⟨x2, 0, none⟩), .slice (some ⟨a8, 0, none⟩) 1 c8] 95) = w4 at *
  generalize w3.heap.size = nc at *
  refine HL.out.mono ?_
  rintro e w5 ⟨A7, c7, rfl, ho, hs, hc⟩
  have HNP_ := Lib.hid (hs.blk HS.out.gate HNP.out (by decide) (by decide) (fun x => x))
  have HNN_ := Lib.hid (hs.blk HS.out.gate HNN.out (by decide) (by decide) (fun x => x))
  have HO9_ := Lib.hid (own_step HO9.out HS.out.gate hs (by decide) (by decide))
  have HO8_ := Lib.hid (own_step HO8.out HS.out.gate hs (by decide) (by decide))
  have HS_ := Lib.hid (HS.out.trans hs (fun _ _ x => x))
  have HSZ_ := Lib.hid (Nat.le_trans HSZ.out hs.fr.size)
  have HC_ := Lib.hid hc
  have HO7 := Lib.hid ho
  clear ho hs hc HL HS HC HSZ HNP HNN HO9 HO8
  have HS := HS_
  clear HS_
  have HC := HC_
  clear HC_
  have HSZ := HSZ_
  clear HSZ_
  have HNP := HNP_
  clear HNP_
  have HNN := HNN_
  clear HNN_
  have HO9 := HO9_
  clear HO9_
  have HO8 := HO8_
  clear HO8_
  have hbw := (Below.refl w5.heap.size w5).alloc (Nat.le_refl _) (.cells #[.pointer (some ⟨m, 0, none⟩), .pointer (some ⟨x3, 0, none⟩), .slice A7 fl.length c7] TLK)
  have HNP_ := Lib.hid (HNP.out.below hbw HNP.out.lt)
  have HNN_ := Lib.hid (HNN.out.below hbw HNN.out.lt)
  have HO9_ := Lib.hid (owns_fr HO9.out (Fr.of_below0 (S := fun _ => False) hbw) (fun _ _ => id))
  have HO8_ := Lib.hid (owns_fr HO8.out (Fr.of_below0 (S := fun _ => False) hbw) (fun _ _ => id))
  have HO7_ := Lib.hid (owns_fr HO7.out (Fr.of_below0 (S := fun _ => False) hbw) (fun _ _ => id))
  have HS_ := Lib.hid (step_new HS.out (Fr.of_below0 (S := fun _ => False) hbw) (fun _ hk => hk.elim))
  have HC_ := Lib.hid (HC.out.below hbw)
  have HSZ_ := Lib.hid (Nat.le_trans HSZ.out hbw.size)
  have HNM := Lib.hid (Blk.new w5 TLK [.pointer (some ⟨m, 0, none⟩), .pointer (some ⟨x3, 0, none⟩), .slice A7 fl.length c7])
  clear hbw HS HC HSZ HNP HNN HO9 HO8 HO7
  have HS := HS_
  clear HS_
  have HC := HC_
  clear HC_
  have HSZ := HSZ_
  clear HSZ_
  have HNP := HNP_
  clear HNP_
  have HNN := HNN_
  clear HNN_
  have HO9 := HO9_
  clear HO9_
  have HO8 := HO8_
  clear HO8_
  have HO7 := HO7_
  clear HO7_
  go_wp2_with fail
  generalize w5.alloc (.cells #[.pointer (some ⟨m, 0, none⟩), .pointer (some ⟨x3, 0, none⟩), .slice A7 fl.length c7] 95) = w6 at *
  generalize w5.heap.size = nd at *
  have HNPQ : Hid (Blk w6.drew nb TLK [.pointer (some ⟨p, 0, none⟩), .pointer (some ⟨x, 0, none⟩), .slice (some ⟨a9, 0, none⟩) 1 c9]) := HNP
  have HNNQ : Hid (Blk w6.drew nc TLK [.pointer (some ⟨n, 0, none⟩), .pointer (some ⟨x2, 0, none⟩), .slice (some ⟨a8, 0, none⟩) 1 c8]) := HNN
  have HNMQ : Hid (Blk w6.drew nd TLK [.pointer (some ⟨m, 0, none⟩), .pointer (some ⟨x3, 0, none⟩), .slice A7 fl.length c7]) := HNM
  have HO9Q := Lib.hid (owns_fr HO9.out (Fr.of_below0 (S := fun _ => False) (Below.refl w6.heap.size w6).drew) (fun _ _ => id))
  have HO7Q := Lib.hid (owns_fr HO7.out (Fr.of_below0 (S := fun _ => False) (Below.refl w6.heap.size w6).drew) (fun _ _ => id))
  have HSQ := Lib.hid (step_new HS.out (Fr.of_below0 (S := fun _ => False) (Below.refl w6.heap.size w6).drew) (fun _ hk => hk.elim))
  have HCQ := Lib.hid (HC.out.below (Below.refl w6.heap.size w6).drew)
  have HSZQ : Hid (pb ≤ w6.drew.heap.size) := HSZ
  clear HS HC HSZ HO9 HO8 HO7 HNP HNN HNM
  refine start_ (n := 19) (S := fun _ => True) (ds := []) #[false, false, false, false, false, false, false, false, false, false, false, false, false, false, false, false, false, false, false] (by kernel_rfl) rfl rfl trivial (fun _ => ?_)
  generalize w6.drew = wq at *
  obtain ⟨_, e9, hr9, _⟩ := owns_one HO9Q.out
  cases e9
  have HLP0 := Lib.hid (fun w' (hb : Below wq.heap.size wq w') => pw_cell_below (w := wq) hb (show wq.cell? ⟨nb, 0, none⟩ = some (.pointer (some ⟨p, 0, none⟩)) from HNPQ.out.cell 0))
  have HLP1 := Lib.hid (fun w' (hb : Below wq.heap.size wq w') => pw_cell_below (w := wq) hb (show wq.cell? ⟨nb, 1, none⟩ = some (.pointer (some ⟨x, 0, none⟩)) from HNPQ.out.cell 1))
  have HLP2 := Lib.hid (fun w' (hb : Below wq.heap.size wq w') => pw_cell_below (w := wq) hb (show wq.cell? ⟨nb, 2, none⟩ = some (.slice (some ⟨a9, 0, none⟩) 1 c9) from HNPQ.out.cell 2))
  have HLN0 := Lib.hid (fun w' (hb : Below wq.heap.size wq w') => pw_cell_below (w := wq) hb (show wq.cell? ⟨nc, 0, none⟩ = some (.pointer (some ⟨n, 0, none⟩)) from HNNQ.out.cell 0))
  have HLN1 := Lib.hid (fun w' (hb : Below wq.heap.size wq w') => pw_cell_below (w := wq) hb (show wq.cell? ⟨nc, 1, none⟩ = some (.pointer (some ⟨x2, 0, none⟩)) from HNNQ.out.cell 1))
  have HLN2 := Lib.hid (fun w' (hb : Below wq.heap.size wq w') => pw_cell_below (w := wq) hb (show wq.cell? ⟨nc, 2, none⟩ = some (.slice (some ⟨a8, 0, none⟩) 1 c8) from HNNQ.out.cell 2))
  have HLM0 := Lib.hid (fun w' (hb : Below wq.heap.size wq w') => pw_cell_below (w := wq) hb (show wq.cell? ⟨nd, 0, none⟩ = some (.pointer (some ⟨m, 0, none⟩)) from HNMQ.out.cell 0))
  have HLM1 := Lib.hid (fun w' (hb : Below wq.heap.size wq w') => pw_cell_below (w := wq) hb (show wq.cell? ⟨nd, 1, none⟩ = some (.pointer (some ⟨x3, 0, none⟩)) from HNMQ.out.cell 1))
  have HLM2 := Lib.hid (fun w' (hb : Below wq.heap.size wq w') => pw_cell_below (w := wq) hb (show wq.cell? ⟨nd, 2, none⟩ = some (.slice A7 fl.length c7) from HNMQ.out.cell 2))
  have HR9 := Lib.hid (fun w' (hb : Below wq.heap.size wq w') => pw_cell_below (w := wq) hb (show wq.cell? ⟨a9, 0, none⟩ = some (pv (some n)) from hr9))
  clear hr9
  have HM0 := Lib.hid (fun w' (hb : Below wq.heap.size wq w') => pw_cell_below (w := wq) hb (show wq.cell? ⟨m, 0, none⟩ = some (.int .i64 k) from (HCQ.out.rep.recs _ _ HRM.out).1.cell 0))
  have HM1 := Lib.hid (fun w' (hb : Below wq.heap.size wq w') => pw_cell_below (w := wq) hb (show wq.cell? ⟨m, 1, none⟩ = some (.int .i64 v) from (HCQ.out.rep.recs _ _ HRM.out).1.cell 1))
  have HROW := Lib.hid (fun w' (hb : Below wq.heap.size wq w') => by
    obtain ⟨A6, c6, e6, q6, _⟩ := owns_slice HO7Q.out
    cases e6
    exact q6.below hb)
  have HNK := Lib.hid (show ∀ p ∈ fl, Ok R p from fun p hp b e => by subst e; exact HCQ.out.rep.kf _ _ HRM.out b hp)
  have HNO := Lib.hid (show Ok R (some n) from fun b e => by cases e; exact HCQ.out.rep.kf _ _ HRB.out n (by simp))
  refine grow_region (md := .any) (w0 := wq) (B := [0, 1, 3, 3, 3, 3, 59, 3, 3, 259, 771, 1795, 3843, 3, 8195, 32515, 65535, 131071, 262143]) [(0, 37), (1, 38), (2, 39), (3, 40), (4, 41), (5, 42), (6, 43), (7, 44), (8, 45), (9, 46), (10, 47), (11, 48), (12, 49), (13, 50), (14, 51), (15, 52)] [16, 17, 18] (fun i => [].contains i) (fun i => 0) (fun i V w' => match i with
      | 0 => V 0 = .bool true
      | 1 => V 1 = .bool true
      | 2 => V 2 = gvI g
      | 3 => V 3 = .agg #[.pointer (some ⟨p, 0, none⟩), .pointer (some ⟨x, 0, none⟩), .slice (some ⟨a9, 0, none⟩) 1 c9]
      | 4 => V 4 = .agg #[.pointer (some ⟨n, 0, none⟩), .pointer (some ⟨x2, 0, none⟩), .slice (some ⟨a8, 0, none⟩) 1 c8]
      | 5 => V 5 = .agg #[.pointer (some ⟨m, 0, none⟩), .pointer (some ⟨x3, 0, none⟩), .slice A7 fl.length c7]
      | 6 => ∃ s, V 6 = .slice (some ⟨s, 0, none⟩) 3 3 ∧ Blk w' s TLK [.pointer (some ⟨p, 0, none⟩), .pointer (some ⟨x, 0, none⟩), .slice (some ⟨a9, 0, none⟩) 1 c9, .pointer (some ⟨n, 0, none⟩), .pointer (some ⟨x2, 0, none⟩), .slice (some ⟨a8, 0, none⟩) 1 c8, .pointer (some ⟨m, 0, none⟩), .pointer (some ⟨x3, 0, none⟩), .slice A7 fl.length c7]
      | 7 => ∃ s, V 7 = .slice (some ⟨s, 0, none⟩) 3 3 ∧ Blk w' s 4 [.bool false, .bool true, .bool true]
      | 8 => V 8 = .pointer (some ⟨nd, 0, none⟩)
      | 9 => V 9 = .pointer (some ⟨m, 0, none⟩)
      | 10 => V 10 = .pointer (some ⟨m, 0, none⟩)
      | 11 => V 11 = .pointer (some ⟨m, 0, none⟩)
      | 12 => V 12 = .agg #[.int .i64 k, .int .i64 v]
      | 13 => V 13 = .pointer (some ⟨nd, 2, none⟩)
      | 14 => V 14 = .slice A7 fl.length c7
      | 15 => ∃ b fb xb, V 15 = pv (some b) ∧ wq.heap.size ≤ b ∧ wq.heap.size ≤ fb ∧ wq.heap.size ≤ xb ∧ RepapiPair w' (upd R b ⟨[.int .i64 k, .int .i64 v], fb, fl, some xb, false⟩) (upd X xb firstO)
      | _ => True) rfl (by kernel_rfl) (by kernel_rfl) (by kernel_rfl) (by kernel_rfl) (by kernel_rfl) (by kernel_rfl) (by kernel_rfl) (by kernel_rfl) ?_ ?_ ?_ ?_
  · intro e he V V' w' h hp
    simp only [List.mem_cons, List.not_mem_nil, or_false] at he
    rcases he with rfl | rfl | rfl | rfl | rfl | rfl | rfl | rfl | rfl | rfl | rfl | rfl | rfl | rfl | rfl | rfl
    · simp only [← h 0 (.inl rfl)]; exact hp
    · simp only [← h 1 (.inl rfl)]; exact hp
    · simp only [← h 2 (.inl rfl)]; exact hp
    · simp only [← h 3 (.inl rfl)]; exact hp
    · simp only [← h 4 (.inl rfl)]; exact hp
    · simp only [← h 5 (.inl rfl)]; exact hp
    · simp only [← h 6 (.inl rfl)]; exact hp
    · simp only [← h 7 (.inl rfl)]; exact hp
    · simp only [← h 8 (.inl rfl)]; exact hp
    · simp only [← h 9 (.inl rfl)]; exact hp
    · simp only [← h 10 (.inl rfl)]; exact hp
    · simp only [← h 11 (.inl rfl)]; exact hp
    · simp only [← h 12 (.inl rfl)]; exact hp
    · simp only [← h 13 (.inl rfl)]; exact hp
    · simp only [← h 14 (.inl rfl)]; exact hp
    · simp only [← h 15 (.inl rfl)]; exact hp
  · intro e he V w1 w2 hp hb
    simp only [List.mem_cons, List.not_mem_nil, or_false] at he
    rcases he with rfl | rfl | rfl | rfl | rfl | rfl | rfl | rfl | rfl | rfl | rfl | rfl | rfl | rfl | rfl | rfl
    · exact hp
    · exact hp
    · exact hp
    · exact hp
    · exact hp
    · exact hp
    · exact let ⟨s, h1, h2⟩ := hp; ⟨s, h1, (Fr.of_below0 (S := fun _ => False) hb).blk h2 id⟩
    · exact let ⟨s, h1, h2⟩ := hp; ⟨s, h1, (Fr.of_below0 (S := fun _ => False) hb).blk h2 id⟩
    · exact hp
    · exact hp
    · exact hp
    · exact hp
    · exact hp
    · exact hp
    · exact hp
    · exact let ⟨b, fb, xb, h1, h2, h3, h4, h5⟩ := hp; ⟨b, fb, xb, h1, h2, h3, h4, h5.below hb⟩
  · intro e he
    simp only [List.mem_cons, List.not_mem_nil, or_false] at he
    rcases he with rfl | rfl | rfl | rfl | rfl | rfl | rfl | rfl | rfl | rfl | rfl | rfl | rfl | rfl | rfl | rfl
    · intro V a w' hd ho hB
      have e8 : a.tmps[8]? = some (.bool true) := (ho 8 (by decide)).trans rfl
      refine ⟨_, rfl, rfl, fun K hK => ?_⟩
      clear hd ho
      refine value_ (w1 := w') (v := .bool true) rfl rfl ?_ (hK.out _ _ (Below.refl _ _) (setV_self _ _ _) (fun h => absurd h (by decide)))
      go_simp
    · intro V a w' hd ho hB
      obtain ⟨e37, p37, o37⟩ := hd (0, 37) (by decide) (by kernel_rfl)
      rw [show V 0 = .bool true from p37] at e37
      refine ⟨_, rfl, rfl, fun K hK => ?_⟩
      clear hd ho
      refine value_ (w1 := w') (v := .bool true) rfl rfl ?_ (hK.out _ _ (Below.refl _ _) (setV_self _ _ _) (fun h => absurd h (by decide)))
      go_simp
    · intro V a w' hd ho hB
      have e0 : a.tmps[0]? = some (gvI g) := (ho 0 (by decide)).trans rfl
      obtain ⟨e38, p38, o38⟩ := hd (1, 38) (by decide) (by kernel_rfl)
      rw [show V 1 = .bool true from p38] at e38
      refine ⟨_, rfl, rfl, fun K hK => ?_⟩
      clear hd ho
      refine value_ (w1 := w') (v := gvI g) (wanted_true rfl rfl e38) rfl ?_ (hK.out _ _ (Below.refl _ _) (setV_self _ _ _) (fun h => absurd h (by decide)))
      go_simp
    · intro V a w' hd ho hB
      have e7 : a.tmps[7]? = some (.pointer (some ⟨nb, 0, none⟩)) := (ho 7 (by decide)).trans rfl
      obtain ⟨e38, p38, o38⟩ := hd (1, 38) (by decide) (by kernel_rfl)
      rw [show V 1 = .bool true from p38] at e38
      have hc0 := HLP0.out w' hB
      have hc1 := HLP1.out w' hB
      have hc2 := HLP2.out w' hB
      refine ⟨_, rfl, rfl, fun K hK => ?_⟩
      clear hd ho
      refine value_ (w1 := w') (v := .agg #[.pointer (some ⟨p, 0, none⟩), .pointer (some ⟨x, 0, none⟩), .slice (some ⟨a9, 0, none⟩) 1 c9]) (wanted_true rfl rfl e38) rfl ?_ (hK.out _ _ (Below.refl _ _) (setV_self _ _ _) (fun h => absurd h (by decide)))
      go_simp
    · intro V a w' hd ho hB
      have e9 : a.tmps[9]? = some (.pointer (some ⟨nc, 0, none⟩)) := (ho 9 (by decide)).trans rfl
      obtain ⟨e38, p38, o38⟩ := hd (1, 38) (by decide) (by kernel_rfl)
      rw [show V 1 = .bool true from p38] at e38
      have hc0 := HLN0.out w' hB
      have hc1 := HLN1.out w' hB
      have hc2 := HLN2.out w' hB
      refine ⟨_, rfl, rfl, fun K hK => ?_⟩
      clear hd ho
      refine value_ (w1 := w') (v := .agg #[.pointer (some ⟨n, 0, none⟩), .pointer (some ⟨x2, 0, none⟩), .slice (some ⟨a8, 0, none⟩) 1 c8]) (wanted_true rfl rfl e38) rfl ?_ (hK.out _ _ (Below.refl _ _) (setV_self _ _ _) (fun h => absurd h (by decide)))
      go_simp
    · intro V a w' hd ho hB
      have e10 : a.tmps[10]? = some (.pointer (some ⟨nd, 0, none⟩)) := (ho 10 (by decide)).trans rfl
      obtain ⟨e38, p38, o38⟩ := hd (1, 38) (by decide) (by kernel_rfl)
      rw [show V 1 = .bool true from p38] at e38
      have hc0 := HLM0.out w' hB
      have hc1 := HLM1.out w' hB
      have hc2 := HLM2.out w' hB
      refine ⟨_, rfl, rfl, fun K hK => ?_⟩
      clear hd ho
      refine value_ (w1 := w') (v := .agg #[.pointer (some ⟨m, 0, none⟩), .pointer (some ⟨x3, 0, none⟩), .slice A7 fl.length c7]) (wanted_true rfl rfl e38) rfl ?_ (hK.out _ _ (Below.refl _ _) (setV_self _ _ _) (fun h => absurd h (by decide)))
      go_simp
    · intro V a w' hd ho hB
      obtain ⟨e40, p40, o40⟩ := hd (3, 40) (by decide) (by kernel_rfl)
      rw [show V 3 = .agg #[.pointer (some ⟨p, 0, none⟩), .pointer (some ⟨x, 0, none⟩), .slice (some ⟨a9, 0, none⟩) 1 c9] from p40] at e40
      obtain ⟨e41, p41, o41⟩ := hd (4, 41) (by decide) (by kernel_rfl)
      rw [show V 4 = .agg #[.pointer (some ⟨n, 0, none⟩), .pointer (some ⟨x2, 0, none⟩), .slice (some ⟨a8, 0, none⟩) 1 c8] from p41] at e41
      obtain ⟨e42, p42, o42⟩ := hd (5, 42) (by decide) (by kernel_rfl)
      rw [show V 5 = .agg #[.pointer (some ⟨m, 0, none⟩), .pointer (some ⟨x3, 0, none⟩), .slice A7 fl.length c7] from p42] at e42
      obtain ⟨e38, p38, o38⟩ := hd (1, 38) (by decide) (by kernel_rfl)
      rw [show V 1 = .bool true from p38] at e38
      refine ⟨_, rfl, rfl, fun K hK => ?_⟩
      refine value_ (w1 := w'.alloc (.cells #[.pointer (some ⟨p, 0, none⟩), .pointer (some ⟨x, 0, none⟩), .slice (some ⟨a9, 0, none⟩) 1 c9, .pointer (some ⟨n, 0, none⟩), .pointer (some ⟨x2, 0, none⟩), .slice (some ⟨a8, 0, none⟩) 1 c8, .pointer (some ⟨m, 0, none⟩), .pointer (some ⟨x3, 0, none⟩), .slice A7 fl.length c7] TLK)) (v := .slice (some ⟨w'.heap.size, 0, none⟩) 3 3) (wanted_true rfl rfl e38) rfl ?_ (hK.out _ _ ((Below.refl _ _).alloc (Nat.le_refl _) _) ⟨w'.heap.size, setV_self _ _ _, Blk.new w' TLK [.pointer (some ⟨p, 0, none⟩), .pointer (some ⟨x, 0, none⟩), .slice (some ⟨a9, 0, none⟩) 1 c9, .pointer (some ⟨n, 0, none⟩), .pointer (some ⟨x2, 0, none⟩), .slice (some ⟨a8, 0, none⟩) 1 c8, .pointer (some ⟨m, 0, none⟩), .pointer (some ⟨x3, 0, none⟩), .slice A7 fl.length c7]⟩ (fun h => absurd h (by decide)))
      clear hd ho hK
      go_simp
    · intro V a w' hd ho hB
      obtain ⟨e38, p38, o38⟩ := hd (1, 38) (by decide) (by kernel_rfl)
      rw [show V 1 = .bool true from p38] at e38
      refine ⟨_, rfl, rfl, fun K hK => ?_⟩
      refine value_ (w1 := w'.alloc (.cells #[.bool false, .bool true, .bool true] 4)) (v := .slice (some ⟨w'.heap.size, 0, none⟩) 3 3) (wanted_true rfl rfl e38) rfl ?_ (hK.out _ _ ((Below.refl _ _).alloc (Nat.le_refl _) _) ⟨w'.heap.size, setV_self _ _ _, Blk.new w' 4 [.bool false, .bool true, .bool true]⟩ (fun h => absurd h (by decide)))
      clear hd ho hK
      go_simp
    · intro V a w' hd ho hB
      have e10 : a.tmps[10]? = some (.pointer (some ⟨nd, 0, none⟩)) := (ho 10 (by decide)).trans rfl
      obtain ⟨e38, p38, o38⟩ := hd (1, 38) (by decide) (by kernel_rfl)
      rw [show V 1 = .bool true from p38] at e38
      refine ⟨_, rfl, rfl, fun K hK => ?_⟩
      clear hd ho
      refine value_ (w1 := w') (v := .pointer (some ⟨nd, 0, none⟩)) (wanted_true rfl rfl e38) rfl ?_ (hK.out _ _ (Below.refl _ _) (setV_self _ _ _) (fun h => absurd h (by decide)))
      go_simp
    · intro V a w' hd ho hB
      obtain ⟨e45, p45, o45⟩ := hd (8, 45) (by decide) (by kernel_rfl)
      rw [show V 8 = .pointer (some ⟨nd, 0, none⟩) from p45] at e45
      obtain ⟨e38, p38, o38⟩ := hd (1, 38) (by decide) (by kernel_rfl)
      rw [show V 1 = .bool true from p38] at e38
      have hc0 := HLM0.out w' hB
      refine ⟨_, rfl, rfl, fun K hK => ?_⟩
      clear hd ho
      refine value_ (w1 := w') (v := .pointer (some ⟨m, 0, none⟩)) (wanted_true rfl rfl e38) rfl ?_ (hK.out _ _ (Below.refl _ _) (setV_self _ _ _) (fun h => absurd h (by decide)))
      go_simp
    · intro V a w' hd ho hB
      obtain ⟨e46, p46, o46⟩ := hd (9, 46) (by decide) (by kernel_rfl)
      rw [show V 9 = .pointer (some ⟨m, 0, none⟩) from p46] at e46
      obtain ⟨e38, p38, o38⟩ := hd (1, 38) (by decide) (by kernel_rfl)
      rw [show V 1 = .bool true from p38] at e38
      refine ⟨_, rfl, rfl, fun K hK => ?_⟩
      clear hd ho
      refine value_ (w1 := w') (v := .pointer (some ⟨m, 0, none⟩)) (wanted_true rfl rfl e38) rfl ?_ (hK.out _ _ (Below.refl _ _) (setV_self _ _ _) (fun h => absurd h (by decide)))
      go_simp
    · intro V a w' hd ho hB
      obtain ⟨e47, p47, o47⟩ := hd (10, 47) (by decide) (by kernel_rfl)
      rw [show V 10 = .pointer (some ⟨m, 0, none⟩) from p47] at e47
      obtain ⟨e38, p38, o38⟩ := hd (1, 38) (by decide) (by kernel_rfl)
      rw [show V 1 = .bool true from p38] at e38
      refine ⟨_, rfl, rfl, fun K hK => ?_⟩
      clear hd ho
      refine value_ (w1 := w') (v := .pointer (some ⟨m, 0, none⟩)) (wanted_true rfl rfl e38) rfl ?_ (hK.out _ _ (Below.refl _ _) (setV_self _ _ _) (fun h => absurd h (by decide)))
      go_simp
    · intro V a w' hd ho hB
      obtain ⟨e48, p48, o48⟩ := hd (11, 48) (by decide) (by kernel_rfl)
      rw [show V 11 = .pointer (some ⟨m, 0, none⟩) from p48] at e48
      obtain ⟨e38, p38, o38⟩ := hd (1, 38) (by decide) (by kernel_rfl)
      rw [show V 1 = .bool true from p38] at e38
      have hc0 := HM0.out w' hB
      have hc1 := HM1.out w' hB
      refine ⟨_, rfl, rfl, fun K hK => ?_⟩
      clear hd ho
      refine value_ (w1 := w') (v := .agg #[.int .i64 k, .int .i64 v]) (wanted_true rfl rfl e38) rfl ?_ (hK.out _ _ (Below.refl _ _) (setV_self _ _ _) (fun h => absurd h (by decide)))
      go_simp
    · intro V a w' hd ho hB
      have e10 : a.tmps[10]? = some (.pointer (some ⟨nd, 0, none⟩)) := (ho 10 (by decide)).trans rfl
      obtain ⟨e38, p38, o38⟩ := hd (1, 38) (by decide) (by kernel_rfl)
      rw [show V 1 = .bool true from p38] at e38
      refine ⟨_, rfl, rfl, fun K hK => ?_⟩
      clear hd ho
      refine value_ (w1 := w') (v := .pointer (some ⟨nd, 2, none⟩)) (wanted_true rfl rfl e38) rfl ?_ (hK.out _ _ (Below.refl _ _) (setV_self _ _ _) (fun h => absurd h (by decide)))
      go_simp
    · intro V a w' hd ho hB
      obtain ⟨e50, p50, o50⟩ := hd (13, 50) (by decide) (by kernel_rfl)
      rw [show V 13 = .pointer (some ⟨nd, 2, none⟩) from p50] at e50
      obtain ⟨e38, p38, o38⟩ := hd (1, 38) (by decide) (by kernel_rfl)
      rw [show V 1 = .bool true from p38] at e38
      have hc2 := HLM2.out w' hB
      refine ⟨_, rfl, rfl, fun K hK => ?_⟩
      clear hd ho
      refine value_ (w1 := w') (v := .slice A7 fl.length c7) (wanted_true rfl rfl e38) rfl ?_ (hK.out _ _ (Below.refl _ _) (setV_self _ _ _) (fun h => absurd h (by decide)))
      go_simp
    · intro V a w' hd ho hB
      obtain ⟨e49, p49, o49⟩ := hd (12, 49) (by decide) (by kernel_rfl)
      rw [show V 12 = .agg #[.int .i64 k, .int .i64 v] from p49] at e49
      obtain ⟨e51, p51, o51⟩ := hd (14, 51) (by decide) (by kernel_rfl)
      rw [show V 14 = .slice A7 fl.length c7 from p51] at e51
      obtain ⟨e38, p38, o38⟩ := hd (1, 38) (by decide) (by kernel_rfl)
      rw [show V 1 = .bool true from p38] at e38
      refine ⟨_, rfl, rfl, fun K hK => ?_⟩
      have hrow9 : Row1 w' A7 fl.length (fl.map pv) := by have := HROW.out w' hB; simpa using this
      refine goes_ Try.func22 (by kernel_rfl) rfl #[.agg #[.int .i64 k, .int .i64 v], .slice A7 fl.length c7] (wanted_true rfl rfl e38) rfl rfl (by simp [eval_of e49, eval_of e51]) ?_
      refine (new_apiPair _ _ _ _ fl R X w' (HCQ.out.below hB).rep hrow9 (fun p hp => HNK.out p hp) (by omega)).mono ?_
      rintro e w2 ⟨b, fb, xb, rfl, h1, h2, h3, hbl, hrep⟩
      exact ⟨_, rfl, hK.out _ _ hbl ⟨b, fb, xb, setV_self _ _ _, Nat.le_trans hB.size h1, Nat.le_trans hB.size h2, Nat.le_trans hB.size h3, hrep⟩ (fun h => absurd h (by decide))⟩
  · intro V a w' hfr hB hP hap hlt
    have P0 := hP (0, 37) (by decide)
    have P1 := hP (1, 38) (by decide)
    have P2 := hP (2, 39) (by decide)
    have P3 := hP (3, 40) (by decide)
    have P4 := hP (4, 41) (by decide)
    have P5 := hP (5, 42) (by decide)
    have P6 := hP (6, 43) (by decide)
    have P7 := hP (7, 44) (by decide)
    have P8 := hP (8, 45) (by decide)
    have P9 := hP (9, 46) (by decide)
    have P10 := hP (10, 47) (by decide)
    have P11 := hP (11, 48) (by decide)
    have P12 := hP (12, 49) (by decide)
    have P13 := hP (13, 50) (by decide)
    have P14 := hP (14, 51) (by decide)
    have P15 := hP (15, 52) (by decide)
    clear hP
    have P0 : V 0 = .bool true := P0
    have P1 : V 1 = .bool true := P1
    have P2 : V 2 = gvI g := P2
    obtain ⟨s4, hs4, hb4⟩ := P6
    obtain ⟨s5, hs5, hb5⟩ := P7
    obtain ⟨b, fb, xb, hs9, h1, h2, h3, hrep⟩ := P15
    have hBq := Nat.le_trans HBB.out HSZQ.out
    have hch := HCQ.out.addRec h1 h2 h3 hBq hrep
    have hgq := HSQ.out.gate.below0 hB (fun _ => False)
    have hplt := (HCQ.out.rep.recs _ _ HRB.out).1.lt
    have hnlt := (HCQ.out.rep.recs _ _ HRN.out).1.lt
    have hmlt := (HCQ.out.rep.recs _ _ HRM.out).1.lt
    have hpb : p ≠ b := fun e => by omega
    have hnb : n ≠ b := fun e => by omega
    have hmb : m ≠ b := fun e => by omega
    have hxs := hch.scx (y0 := ⟨p, x, some ⟨a9, 0, none⟩, 1, c9⟩) (L := [⟨n, x2, some ⟨a8, 0, none⟩, 1, c8⟩, ⟨m, x3, A7, fl.length, c7⟩]) (Af := some ⟨s5, 0, none⟩) (cf := 3) (cl := 3) (ff := [false, true, true]) (a0 := a9) (n := some n) (p := some b) hgq.gate (by have := hB.size; have := HSZQ.out; have := HB.out; omega) (by simp; omega) (LkAt.three hb4) (by simp) (Row1.of_blk (us := [.bool false, .bool true, .bool true]) (rest := []) hb5) (fun e => nomatch e) rfl rfl Nat.zero_lt_one (HR9.out w' hB) ((upd_ne _ _ hpb).trans HRB.out) rfl (HNO.out.upd _ _) (Ok.of (upd_self _ _ _)) (by simp [HPN.out.1, HPN.out.2.1, HPN.out.2.2]) (fun y hy => by
      rcases List.mem_cons.1 hy with rfl | hy
      · exact ⟨_, (upd_ne _ _ hpb).trans HRB.out, rfl⟩
      rcases List.mem_cons.1 hy with rfl | hy
      · exact ⟨_, (upd_ne _ _ hnb).trans HRN.out, rfl⟩
      · cases List.mem_singleton.1 hy; exact ⟨_, (upd_ne _ _ hmb).trans HRM.out, rfl⟩)
    have HXS := Lib.hid hxs
    have HCH := Lib.hid hch
    have HGQ := Lib.hid hgq
    have HBE := Lib.hid (And.intro (And.intro h1 h2) (And.intro h3 hB.size))
    have HREP := Lib.hid hrep
    clear hxs hch hgq hBq
    subst hfr
    simp only [vrows, List.map_cons, List.map_nil, putSel, if_true, Act.put, List.setIfInBounds_toArray, List.set_cons_zero, List.set_cons_succ, hs4, hs5, hs9, P0, P1, P2]
    refine ⟨_, rfl, ?_⟩
    refine goes_ Try.func42 (by kernel_rfl) rfl #[gvI g, .slice (some ⟨s4, 0, none⟩) 3 3, .slice (some ⟨s5, 0, none⟩) 3 3, .int .i64 0, .int .i64 0, pv (some b)] (wanted_true rfl rfl rfl) rfl rfl (by simp [Act.eval]) ?_
    refine HXS.out.mono ?_
    rintro e w9 ⟨rfl, s, v1, v2, v3, hs, hst, hrep3⟩
    have HGO := Lib.hid (show ChStep B B' g w R X (pre ++ p :: n :: m :: post) (ks ++ (List.replicate (17 + (if l2.length = 0 then 0 else 1)) 1 ++ [5, 5, 5, 2, 2, 2, 5, 2])) (l1 ++ l2) w9 from by
      obtain ⟨A0, a0, hA, hcut⟩ := psOf_cut l1
      have hbe := HBE.out
      have hsz := HSZQ.out
      have hfr := HCQ.out.fresh hbe.1.1
      have hsX : (upd X xb firstO) s = none := by
        cases hc : (upd X xb firstO) s with
        | none => rfl
        | some o1 => have := (HREP.out.scx _ _ hc).lt; omega
      obtain ⟨Z, hZ⟩ : ∃ Z, l2 ++ [(0, 0)] = (k, v) :: Z := by
        have := HD.out
        cases l2 with
        | nil => exact ⟨[], by simpa using this⟩
        | cons y ys => exact ⟨ys ++ [(0, 0)], by simp at this; simp [this]⟩
      refine ⟨_, _, pre ++ p :: b :: post, ?_, ?_, Chn.splice (mid := [n, m]) (post := post) (ff := [true, true]) (M := [e1, (k, v)]) (Z := Z) (d := (k, v)) HCH.out hfr (by simp; omega) (by rw [HFL0.out]; exact upd_self _ _ _) (upd_self _ _ _) (.inr rfl) hsX (by have := HBB.out; omega) rfl (by rw [hcut, List.cons_append, hZ]; rfl) (by rw [hA]; exact HPRE.out.symm) rfl (by rw [hcut, hZ]) hrep3, by cases pre <;> rfl, fun q o1 hq => data_other hq (fun e => by have := (HCQ.out.rep.recs _ _ hq).1.lt; omega)⟩
      · have h5 := ((HSQ.out.mono (S' := RFoot R X) (fun _ _ hk => hk.elim)).trans HGQ.out (fun _ _ hk => hk.elim)).trans hst (fun i hi hk => by
          rcases hk with hk | hk
          · rcases List.mem_cons.1 hk with rfl | hk
            · exact .inl (by rw [HRB.out]; rfl)
            · rcases List.mem_cons.1 hk with rfl | hk
              · exact .inl (by rw [HRN.out]; rfl)
              · rw [List.mem_singleton.1 hk]; exact .inl (by rw [HRM.out]; rfl)
          · exact .inr (.inl ⟨p, _, HRB.out, hk.symm⟩))
        rw [← HFL.out]
        have hre : (List.replicate 6 (1 : Int) ++ (List.replicate 6 1 ++ List.replicate (fl.length + 5) 1)) = List.replicate (17 + fl.length) 1 := by
          rw [List.replicate_append_replicate, List.replicate_append_replicate]
          congr 1
          omega
        rw [← hre]
        simpa [List.append_assoc, List.replicate] using h5
      · intro q hq hk
        exact foot_other (n := w.heap.size) (by have := HPB.out; omega) (by have := HPB.out; show _ ≤ fb; omega) (by have := HPB.out; omega) (by have := HPB.out; omega) hq hk)
    refine ⟨_, rfl, ?_⟩
    clear hst hrep3 HXS HCH HGQ HREP hs
    simp only [Act.put, List.setIfInBounds_toArray, List.set_cons_zero, List.set_cons_succ]
    refine seq_value (w1 := w9) (.bool true) rfl rfl rfl (by go_simp) ?_
    simp only [Act.put, List.setIfInBounds_toArray, List.set_cons_zero, List.set_cons_succ]
    refine seq_value (w1 := w9) (.bool true) rfl rfl rfl (by go_simp) ?_
    simp only [Act.put, List.setIfInBounds_toArray, List.set_cons_zero, List.set_cons_succ]
    refine seq_nil ?_
    go_wp2
    exact HQ'.out _ _ ⟨rfl, HGO.out⟩
end Go.Proofs.Yteeficpjggimcaa
