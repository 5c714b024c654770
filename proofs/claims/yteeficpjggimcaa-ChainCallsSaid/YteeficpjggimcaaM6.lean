/- Joined texts: ChainL ChainM ChainN ChainO. -/
import Derived.Test.YteeficpjggimcaaM5

/- chain: where a key is, or would be; Get. -/
namespace Go.Proofs.Yteeficpjggimcaa
open Go.RowKit Go.Proofs.YteeficpjggimcaaW.PrintWords
set_option linter.unusedVariables false
set_option linter.unusedSimpArgs false

/-- The key's value. -/
def getV (l : List (Int × Int)) (key : Int) : Int × Bool := match l.drop (cutN l key) with
  | e :: _ => if e.1 = key then (e.2, true) else (0, false)
  | [] => (0, false)
/-- The list with the key's value so. -/
def putL (l : List (Int × Int)) (key val : Int) : List (Int × Int) := match l.drop (cutN l key) with
  | e :: l2 => if e.1 = key then l.take (cutN l key) ++ (key, val) :: l2 else l.take (cutN l key) ++ (key, val) :: e :: l2
  | [] => l.take (cutN l key) ++ [(key, val)]
/-- The list with the key's value so, if it had none. -/
def addL (l : List (Int × Int)) (key val : Int) : List (Int × Int) := if (getV l key).2 then l else putL l key val
/-- The list without the key. -/
def delL (l : List (Int × Int)) (key : Int) : List (Int × Int) := match l.drop (cutN l key) with
  | e :: l2 => if e.1 = key then l.take (cutN l key) ++ l2 else l
  | [] => l
abbrev walkK (l : List (Int × Int)) (key : Int) : List Int := List.replicate (cutN l key + 1) 1
def insK : List Int := List.replicate 6 1 ++ [5, 2, 5, 2]
def repK : List Int := List.replicate 12 1 ++ [5, 5, 2, 2, 5, 2]
def remK (last : Bool) : List Int := List.replicate (17 + (if last then 0 else 1)) 1 ++ [5, 5, 5, 2, 2, 2, 5, 2]
def putK (l : List (Int × Int)) (key : Int) : List Int := walkK l key ++ if (getV l key).2 then repK else insK
def addK (l : List (Int × Int)) (key : Int) : List Int := walkK l key ++ if (getV l key).2 then [] else insK
def delK (l : List (Int × Int)) (key : Int) : List Int := walkK l key ++ if (getV l key).2 then remK (decide (cutN l key + 1 = l.length)) else []
/-- Where it is, or would be: at an item, or at the tail. -/
inductive Loc (bs : List Nat) (l : List (Int × Int)) (key : Int) : Prop
  | item (pre post : List Nat) (p n n2 : Nat) (l1 l2 : List (Int × Int)) (e : Int × Int) (hb : bs = pre ++ p :: n :: n2 :: post) (hl : l = l1 ++ e :: l2) (h1 : pre.length = l1.length) (h2 : cutN l key = l1.length)
  | tail (pre : List Nat) (p n : Nat) (hb : bs = pre ++ [p, n]) (h1 : pre.length = l.length) (h2 : cutN l key = l.length)
theorem split_at {α : Type} {l : List α} {i : Nat} (h : i < l.length) : ∃ a x b, l = a ++ x :: b ∧ a.length = i := ⟨l.take i, l[i], l.drop (i + 1), by rw [← List.drop_eq_getElem_cons h, List.take_append_drop], by simp; omega⟩
theorem loc {B : Nat} {w : World} {R : Nat → Option RecO} {X : Nat → Option ScxO} {bs : List Nat} {l : List (Int × Int)} (h : Chn B w R X bs l) (key : Int) : Loc bs l key := by
  have hlen := h.len
  have hle := cutN_le l key
  rcases Nat.lt_or_ge (cutN l key) l.length with hlt | hge
  · obtain ⟨l1, e, l2, hl, h1⟩ := split_at hlt
    obtain ⟨pre, p, b, hb, h2⟩ := split_at (l := bs) (i := cutN l key) (by omega)
    have hbl : b.length = l.length + 2 - cutN l key - 1 := by
      have := congrArg List.length hb
      simp only [List.length_append, List.length_cons] at this
      omega
    match b, hb, hbl with
    | [], _, hbl => simp at hbl; omega
    | [x], _, hbl => simp at hbl; omega
    | n :: n2 :: post, hb, _ => exact .item pre post p n n2 l1 l2 e hb hl (by omega) h1.symm
  · obtain ⟨pre, p, b, hb, h2⟩ := split_at (l := bs) (i := cutN l key) (by omega)
    have hbl : b.length = 1 := by
      have := congrArg List.length hb
      simp only [List.length_append, List.length_cons] at this
      omega
    match b, hb, hbl with
    | [n], hb, _ => exact .tail pre p n hb (by omega) (by omega)
theorem cut_drop {l1 l2 : List (Int × Int)} {e : Int × Int} {key : Int} (h : cutN (l1 ++ e :: l2) key = l1.length) : (l1 ++ e :: l2).drop (cutN (l1 ++ e :: l2) key) = e :: l2 ∧ (l1 ++ e :: l2).take (cutN (l1 ++ e :: l2) key) = l1 := by
  rw [h]; simp
section
variable {B B' : Nat} {w w' w2 : World} {g : Option Nat} {ks ks' ks2 : List Int} {R : Nat → Option RecO} {X : Nat → Option ScxO} {bs : List Nat} {l l' : List (Int × Int)}
theorem ChStep.after (hs : StepI B' g w w2 ks2 (fun _ => False)) (h : ChStep B B' g w2 R X bs ks' l' w') : ChStep B B' g w R X bs ks' l' w' := by
  obtain ⟨R', X', bs', h1, h2, h3, h4, h5⟩ := h
  exact ⟨R', X', bs', (hs.mono (fun _ _ hk => hk.elim)).trans h1 (fun _ _ hk => hk), fun q hq hk => h2 q (Nat.lt_of_lt_of_le hq hs.fr.size) hk, h3, h4, h5⟩
theorem ChStep.same (hs : StepI B' g w w' ks' (fun _ => False)) (h : Chn B w' R X bs l) : ChStep B B' g w R X bs ks' l w' :=
  ⟨R, X, bs, hs.mono (fun _ _ hk => hk.elim), fun _ _ hk => hk, h, rfl, fun b o hb => ⟨o, hb, rfl⟩⟩
theorem foot_types (h : RepapiPair w R X) {k : Nat} (hk : RFoot R X k) : ∃ T ys, Blk w k T ys ∧ (T = TPR ∨ T = TPC ∨ T = TPX) := by
  rcases hk with hk | ⟨b, o, ho, rfl⟩ | hk
  · obtain ⟨o, ho⟩ := Option.isSome_iff_exists.1 hk
    exact ⟨_, _, (h.recs _ _ ho).1, .inl rfl⟩
  · exact ⟨_, _, h.fld _ _ ho, .inr (.inl rfl)⟩
  · obtain ⟨o, ho⟩ := Option.isSome_iff_exists.1 hk
    exact ⟨_, _, h.scx _ _ ho, .inr (.inr rfl)⟩
end
/-- What a record holds stays. -/
theorem ChStep.val {B B' : Nat} {w w' : World} {g : Option Nat} {ks' : List Int} {R : Nat → Option RecO} {X : Nat → Option ScxO} {bs : List Nat} {l' : List (Int × Int)} (h : ChStep B B' g w R X bs ks' l' w') {n fb : Nat} {u v : Value} {fl : List (Option Nat)} {x : Option Nat} {m : Bool} (hn : R n = some ⟨[u, v], fb, fl, x, m⟩) : w'.cell? ⟨n, 1, none⟩ = some v := by
  obtain ⟨R', X', bs', h1, h2, h3, h4, h5⟩ := h
  obtain ⟨o', ho, hd⟩ := h5 _ _ hn
  have := (h3.rep.recs _ _ ho).1.cell 1
  rw [this, RecO.cells, hd]
  rfl
set_option maxHeartbeats 4000000 in
set_option maxRecDepth 100000 in
theorem chain_get (B B' : Nat) (w : World) (g : Option Nat) (ks : List Int) (R : Nat → Option RecO) (X : Nat → Option ScxO) (bs : List Nat) (l : List (Int × Int)) (c : Nat) (key : Int) (h : Chn B w R X bs l) (hg : GAtI w B' g ks) (hB : B' ≤ w.heap.size) (hl : ks.length ≤ 600000000) (hll : l.length ≤ 1000000) (hc : Blk w c TCH [pv bs[0]?]) :
    Calls Try.prog 10 #[.pointer (some ⟨c, 0, none⟩), gvI g, .int .i64 key] w fun e w' => e = .returned (.tuple #[.int .i64 (getV l key).1, .bool (getV l key).2]) ∧ StepI B' g w w' (ks ++ walkK l key) (fun _ => False) ∧ Chn B w' R X bs l := by
  refine calls_hide fun Q HQ => ?_
  have HQ' := Lib.hid HQ
  have HW := Lib.hid (chain_walk B B' w g ks R X bs l c key h hg hB (by omega) hll hc)
  have hloc := loc h key
  clear HQ h hg hc
  go_enter Try.func10, Try.ntmps10
  go_wp2_with fail
  refine HW.out.mono ?_
  rintro e w1 ⟨p, n, hp, hn, rfl, hs, hch⟩
  have HS := Lib.hid hs
  have HC := Lib.hid hch
  clear hs hch HW
  rcases hloc with ⟨pre, post, p', n', n2, l1, l2, e, hb, hle, h1, h2⟩ | ⟨pre, p', n', hb, h1, h2⟩
  · have hlt : cutN l key < l.length := by rw [h2, hle]; simp
    have HH := Lib.hid (HC.out.hasItem hlt hn key)
    have HKY := HC.out.key hlt hn
    have he : l[cutN l key] = e := by
      have : l[cutN l key]? = some e := by rw [h2, hle]; simp
      exact (List.getElem?_eq_some_iff.1 this).2
    have HV := Lib.hid (show getV l key = if e.1 = key then (e.2, true) else (0, false) from by
      subst hle
      unfold getV; rw [(cut_drop h2).1])
    rw [he] at HH HKY
    obtain ⟨_, hval⟩ := HKY
    clear hp hn hb hle h1 h2 hlt he
    obtain ⟨ek, ev⟩ := e
    simp only at hval HV HH
    by_cases hk : ek = key
    · have HV2 := Lib.hid (show getV l key = (ev, true) from by rw [HV.out, if_pos hk])
      have hkb : (ek == key) = true := by rw [beq_iff_eq]; exact hk
      rw [hkb] at HH
      clear hk hkb HV
      go_wp2_with fail
      refine HH.out.mono ?_
      rintro e w' ⟨rfl, rfl⟩
      go_wp2
      exact HQ'.out _ _ ⟨by rw [HV2.out]; rfl, HS.out, HC.out⟩
    · have HV2 := Lib.hid (show getV l key = (0, false) from by rw [HV.out, if_neg hk])
      have hkb : (ek == key) = false := by rw [beq_eq_false_iff_ne]; exact hk
      rw [hkb] at HH
      clear hk hkb HV
      go_wp2_with fail
      refine HH.out.mono ?_
      rintro e w' ⟨rfl, rfl⟩
      go_wp2
      exact HQ'.out _ _ ⟨by rw [HV2.out]; rfl, HS.out, HC.out⟩
  · have HH := Lib.hid (HC.out.hasTail (b := n) (by rw [← h2]; exact hn) key)
    have HV2 := Lib.hid (show getV l key = (0, false) from by unfold getV; rw [h2]; simp)
    clear hp hn hb h1 h2
    go_wp2_with fail
    refine HH.out.mono ?_
    rintro e w' ⟨rfl, rfl⟩
    go_wp2
    exact HQ'.out _ _ ⟨by rw [HV2.out]; rfl, HS.out, HC.out⟩
end Go.Proofs.Yteeficpjggimcaa

/- chain: Put, PutIfAbsent, Delete. Printed by p_chainm.py. -/
namespace Go.Proofs.Yteeficpjggimcaa
open Go.RowKit Go.Proofs.YteeficpjggimcaaW.PrintWords
set_option linter.unusedVariables false
set_option linter.unusedSimpArgs false

set_option maxHeartbeats 4000000 in
set_option maxRecDepth 100000 in
theorem chain_put (B B' : Nat) (w : World) (g : Option Nat) (ks : List Int) (R : Nat → Option RecO) (X : Nat → Option ScxO) (bs : List Nat) (l : List (Int × Int)) (c : Nat) (key val : Int) (h : Chn B w R X bs l) (hg : GAtI w B' g ks) (hB : B' ≤ w.heap.size) (hBB : B ≤ w.heap.size) (hl : ks.length ≤ 600000000) (hll : l.length ≤ 1000000) (hc : Blk w c TCH [pv bs[0]?]) :
    Calls Try.prog 11 #[.pointer (some ⟨c, 0, none⟩), gvI g, .int .i64 key, .int .i64 val] w fun e w' => e = .returned (.tuple #[.int .i64 (getV l key).1, .bool (getV l key).2]) ∧ ChStep B B' g w R X bs (ks ++ putK l key) (putL l key val) w' := by
  refine calls_hide fun Q HQ => ?_
  have HQ' := Lib.hid HQ
  have hbw := (Below.refl w.heap.size w).alloc (Nat.le_refl _) (.cells #[.int .i64 key, .int .i64 val] TPA)
  have hs0 := hg.below0 hbw (fun _ => False)
  have HKP := Lib.hid (Blk.new w TPA [.int .i64 key, .int .i64 val])
  have HW := Lib.hid (chain_walk B B' _ g ks R X bs l c key (h.below hbw) hs0.gate (Nat.le_trans hB hbw.size) (by omega) hll (hc.below hbw hc.lt))
  have HS0 := Lib.hid hs0
  have HSZ := Lib.hid (And.intro (Nat.le_trans hB hbw.size) (Nat.le_trans hBB hbw.size))
  have hloc := loc h key
  have HR0 := Lib.hid h.len
  clear HQ h hg hc hs0 hbw
  go_enter Try.func11, Try.ntmps11
  go_wp2
  generalize w.alloc (.cells #[.int .i64 key, .int .i64 val] 56) = w0 at *
  generalize hpb : w.heap.size = pb at *
  have HPB := Lib.hid hpb
  clear hpb
  go_loopw [16] (fun v wr => w0 = wr) (fun _ _ => 0)
  case atStart => exact rfl
  case round =>
    obtain rfl : w0 = wr := hrel
    go_wp2_with fail
    refine HW.out.mono ?_
    rintro e w1 ⟨p, n, hp, hn, rfl, hs, hch⟩
    have HK1 := Lib.hid (hs.blk HS0.out.gate HKP.out (by decide) (by decide) (fun x => x))
    have k0 := HK1.out.cell 0
    have k1 := HK1.out.cell 1
    simp only [List.getElem?_cons_zero, List.getElem?_cons_succ] at k0 k1
    have HS := Lib.hid (HS0.out.trans hs (fun _ _ x => x))
    have HC := Lib.hid hch
    have HZ := Lib.hid (And.intro (Nat.le_trans HSZ.out.1 hs.fr.size) (Nat.le_trans HSZ.out.2 hs.fr.size))
    have HKL := Lib.hid (show (ks ++ List.replicate (cutN l key + 1) 1).length ≤ 700000000 by have := cutN_le l key; simp; omega)
    clear hs hch HW HS0 HSZ
    rcases hloc with ⟨pre, post, p', n', n2, l1, l2, e, hb, hle, h1, h2⟩ | ⟨pre, p', n', hb, h1, h2⟩
    · have hlt : cutN l key < l.length := by rw [h2, hle]; simp
      have HH := Lib.hid (HC.out.hasItem hlt hn key)
      have he : l[cutN l key] = e := by
        have : l[cutN l key]? = some e := by rw [h2, hle]; simp
        exact (List.getElem?_eq_some_iff.1 this).2
      have hpp : p = p' := by
        rw [h2, ← h1, hb] at hp
        simpa using hp.symm
      have hnn : n = n' := by
        rw [h2, ← h1, hb, List.getElem?_append_right (by omega)] at hn
        simpa using hn.symm
      have HKY := HC.out.key hlt hn
      have HRN := HC.out.at_ (cutN l key + 1) n hn
      subst hpp hnn
      have HV := Lib.hid (show getV l key = if e.1 = key then (e.2, true) else (0, false) from by
        subst hle
        unfold getV; rw [(cut_drop h2).1])
      have HE := Lib.hid (And.intro (And.intro hb hle) (And.intro h1 h2))
      rw [he] at HH HKY
      rw [psOf_at l hlt, he] at HRN
      obtain ⟨_, hval⟩ := HKY
      obtain ⟨fbn, xn, on, hrn, _⟩ := HRN
      have HRN := Lib.hid hrn
      clear hp hn hb hle h1 h2 hlt he hrn
      obtain ⟨ek, ev⟩ := e
      simp only at hval HV HH HRN
      by_cases hk : ek = key
      · have HV2 := Lib.hid (show getV l key = (ev, true) from by rw [HV.out, if_pos hk])
        have hkb : (ek == key) = true := by rw [beq_iff_eq]; exact hk
        have HEK := Lib.hid hk
        rw [hkb] at HH
        clear hk hkb HV
        have HI := Lib.hid (Chn.replace (pre := pre) (p := p) (n := n) (n2 := n2) (post := post) (l1 := l1) (l2 := l2) (e1 := (ek, ev)) (by rw [← HE.out.1.1, ← HE.out.1.2]; exact HC.out) HS.out.gate HZ.out.1 HZ.out.2 HKL.out HE.out.2.1 key val)
        have HLS := Lib.hid (show l1 ++ (key, val) :: l2 = putL l key val from by
          unfold putL
          have hd := cut_drop (key := key) (l1 := l1) (l2 := l2) (e := (ek, ev)) (by rw [← HE.out.1.2]; exact HE.out.2.2)
          rw [← HE.out.1.2] at hd
          rw [hd.1, hd.2]
          exact (if_pos HEK.out).symm)
        go_wp2_with fail
        refine HH.out.mono ?_
        rintro e w' ⟨rfl, rfl⟩
        clear hval
        go_wp2_with fail
        refine HI.out.mono ?_
        rintro e w2 ⟨rfl, hst⟩
        have hval := hst.val HRN.out
        have HFIN := Lib.hid (show ChStep B B' g w R X bs (ks ++ putK l key) (putL l key val) w2 from by
          rw [← HLS.out]
          have h3 := ChStep.after HS.out hst
          unfold putK
          rw [HV2.out, HE.out.1.1]
          rw [List.append_assoc] at h3
          exact h3)
        clear hst HI
        go_wp2
        exact HQ'.out _ _ ⟨by rw [HV2.out]; rfl, HFIN.out⟩
      · have HV2 := Lib.hid (show getV l key = (0, false) from by rw [HV.out, if_neg hk])
        have hkb : (ek == key) = false := by rw [beq_eq_false_iff_ne]; exact hk
        have HEK := Lib.hid hk
        rw [hkb] at HH
        clear hk hkb HV hval
        have HI := Lib.hid (Chn.insert (pre := pre) (p := p) (n := n) (post := n2 :: post) (l1 := l1) (l2 := (ek, ev) :: l2) (by rw [← HE.out.1.1, ← HE.out.1.2]; exact HC.out) HS.out.gate HZ.out.1 HZ.out.2 HKL.out HE.out.2.1 key val)
        have HLS := Lib.hid (show l1 ++ (key, val) :: (ek, ev) :: l2 = putL l key val from by
          unfold putL
          have hd := cut_drop (key := key) (l1 := l1) (l2 := l2) (e := (ek, ev)) (by rw [← HE.out.1.2]; exact HE.out.2.2)
          rw [← HE.out.1.2] at hd
          rw [hd.1, hd.2]
          exact (if_neg HEK.out).symm)
        go_wp2_with fail
        refine HH.out.mono ?_
        rintro e w' ⟨rfl, rfl⟩
        go_wp2_with fail
        refine HI.out.mono ?_
        rintro e w2 ⟨rfl, hst⟩
        have HFIN := Lib.hid (show ChStep B B' g w R X bs (ks ++ putK l key) (putL l key val) w2 from by
          rw [← HLS.out]
          
          have h3 := ChStep.after HS.out hst
          unfold putK
          rw [HV2.out, HE.out.1.1]
          rw [List.append_assoc] at h3
          exact h3)
        clear hst HI
        go_wp2
        exact HQ'.out _ _ ⟨by rw [HV2.out]; rfl, HFIN.out⟩
    · have HH := Lib.hid (HC.out.hasTail (b := n) (by rw [← h2]; exact hn) key)
      have HV2 := Lib.hid (show getV l key = (0, false) from by unfold getV; rw [h2]; simp)
      have hpp : p = p' := by
        rw [h2, ← h1, hb] at hp
        simpa using hp.symm
      have hnn : n = n' := by
        rw [h2, ← h1, hb, List.getElem?_append_right (by omega)] at hn
        simpa using hn.symm
      subst hpp hnn
      have HE := Lib.hid (And.intro hb (And.intro h1 h2))
      clear hp hn hb h1 h2
      have HI := Lib.hid (Chn.insert (pre := pre) (p := p) (n := n) (post := []) (l1 := l) (l2 := []) (by rw [List.append_nil, ← HE.out.1]; exact HC.out) HS.out.gate HZ.out.1 HZ.out.2 HKL.out HE.out.2.1 key val)
      have HLS := Lib.hid (show l ++ [(key, val)] = putL l key val from by unfold putL; rw [HE.out.2.2]; simp)
      go_wp2_with fail
      refine HH.out.mono ?_
      rintro e w' ⟨rfl, rfl⟩
      go_wp2_with fail
      refine HI.out.mono ?_
      rintro e w2 ⟨rfl, hst⟩
      have HFIN := Lib.hid (show ChStep B B' g w R X bs (ks ++ putK l key) (putL l key val) w2 from by
        rw [← HLS.out]
        
        have h3 := ChStep.after HS.out hst
        unfold putK
        rw [HV2.out, HE.out.1]
        rw [List.append_assoc] at h3
        exact h3)
      clear hst HI
      go_wp2
      exact HQ'.out _ _ ⟨by rw [HV2.out]; rfl, HFIN.out⟩
set_option maxHeartbeats 4000000 in
set_option maxRecDepth 100000 in
theorem chain_delete (B B' : Nat) (w : World) (g : Option Nat) (ks : List Int) (R : Nat → Option RecO) (X : Nat → Option ScxO) (bs : List Nat) (l : List (Int × Int)) (c : Nat) (key : Int) (h : Chn B w R X bs l) (hg : GAtI w B' g ks) (hB : B' ≤ w.heap.size) (hBB : B ≤ w.heap.size) (hl : ks.length ≤ 600000000) (hll : l.length ≤ 1000000) (hc : Blk w c TCH [pv bs[0]?]) :
    Calls Try.prog 13 #[.pointer (some ⟨c, 0, none⟩), gvI g, .int .i64 key] w fun e w' => e = .returned (.tuple #[.int .i64 (getV l key).1, .bool (getV l key).2]) ∧ ChStep B B' g w R X bs (ks ++ delK l key) (delL l key) w' := by
  refine calls_hide fun Q HQ => ?_
  have HQ' := Lib.hid HQ
  have HW := Lib.hid (chain_walk B B' w g ks R X bs l c key h hg hB (by omega) hll hc)
  have HS0 := Lib.hid (Step.refl hg (fun _ => False))
  have HSZ := Lib.hid (And.intro hB hBB)
  have hloc := loc h key
  have HR0 := Lib.hid h.len
  clear HQ h hg hc
  go_enter Try.func13, Try.ntmps13
  go_wp2
  go_loopw [10] (fun v wr => w = wr) (fun _ _ => 0)
  case atStart => exact rfl
  case round =>
    obtain rfl : w = wr := hrel
    go_wp2_with fail
    refine HW.out.mono ?_
    rintro e w1 ⟨p, n, hp, hn, rfl, hs, hch⟩
    have HS := Lib.hid (HS0.out.trans hs (fun _ _ x => x))
    have HC := Lib.hid hch
    have HZ := Lib.hid (And.intro (Nat.le_trans HSZ.out.1 hs.fr.size) (Nat.le_trans HSZ.out.2 hs.fr.size))
    have HKL := Lib.hid (show (ks ++ List.replicate (cutN l key + 1) 1).length ≤ 700000000 by have := cutN_le l key; simp; omega)
    clear hs hch HW HS0 HSZ
    rcases hloc with ⟨pre, post, p', n', n2, l1, l2, e, hb, hle, h1, h2⟩ | ⟨pre, p', n', hb, h1, h2⟩
    · have hlt : cutN l key < l.length := by rw [h2, hle]; simp
      have HH := Lib.hid (HC.out.hasItem hlt hn key)
      have he : l[cutN l key] = e := by
        have : l[cutN l key]? = some e := by rw [h2, hle]; simp
        exact (List.getElem?_eq_some_iff.1 this).2
      have hpp : p = p' := by
        rw [h2, ← h1, hb] at hp
        simpa using hp.symm
      have hnn : n = n' := by
        rw [h2, ← h1, hb, List.getElem?_append_right (by omega)] at hn
        simpa using hn.symm
      have HKY := HC.out.key hlt hn
      have HRN := HC.out.at_ (cutN l key + 1) n hn
      subst hpp hnn
      have HV := Lib.hid (show getV l key = if e.1 = key then (e.2, true) else (0, false) from by
        subst hle
        unfold getV; rw [(cut_drop h2).1])
      have HE := Lib.hid (And.intro (And.intro hb hle) (And.intro h1 h2))
      rw [he] at HH HKY
      rw [psOf_at l hlt, he] at HRN
      obtain ⟨_, hval⟩ := HKY
      obtain ⟨fbn, xn, on, hrn, _⟩ := HRN
      have HRN := Lib.hid hrn
      clear hp hn hb hle h1 h2 hlt he hrn
      obtain ⟨ek, ev⟩ := e
      simp only at hval HV HH HRN
      by_cases hk : ek = key
      · have HV2 := Lib.hid (show getV l key = (ev, true) from by rw [HV.out, if_pos hk])
        have hkb : (ek == key) = true := by rw [beq_iff_eq]; exact hk
        have HEK := Lib.hid hk
        rw [hkb] at HH
        clear hk hkb HV
        have HI := Lib.hid (Chn.remove (pre := pre) (p := p) (n := n) (m := n2) (post := post) (l1 := l1) (l2 := l2) (e1 := (ek, ev)) (by rw [← HE.out.1.1, ← HE.out.1.2]; exact HC.out) HS.out.gate HZ.out.1 HZ.out.2 HKL.out HE.out.2.1)
        have HLS := Lib.hid (show l1 ++ l2 = delL l key from by
          unfold delL
          have hd := cut_drop (key := key) (l1 := l1) (l2 := l2) (e := (ek, ev)) (by rw [← HE.out.1.2]; exact HE.out.2.2)
          rw [← HE.out.1.2] at hd
          rw [hd.1, hd.2]
          exact (if_pos HEK.out).symm)
        go_wp2_with fail
        refine HH.out.mono ?_
        rintro e w' ⟨rfl, rfl⟩
        clear hval
        go_wp2_with fail
        refine HI.out.mono ?_
        rintro e w2 ⟨rfl, hst⟩
        have hval := hst.val HRN.out
        have HFIN := Lib.hid (show ChStep B B' g w R X bs (ks ++ delK l key) (delL l key) w2 from by
          rw [← HLS.out]
          have h3 := ChStep.after HS.out hst
          unfold delK
          rw [HV2.out, HE.out.1.1]
          rw [List.append_assoc] at h3
          have hlast : decide (cutN l key + 1 = l.length) = decide (l2.length = 0) := by
            refine decide_eq_decide.2 ?_
            have h4 := HE.out.2.2
            have h5 := congrArg List.length HE.out.1.2
            simp only [List.length_append, List.length_cons] at h5
            omega
          rw [hlast]
          unfold remK
          simpa using h3)
        clear hst HI
        go_wp2
        exact HQ'.out _ _ ⟨by rw [HV2.out]; rfl, HFIN.out⟩
      · have HV2 := Lib.hid (show getV l key = (0, false) from by rw [HV.out, if_neg hk])
        have hkb : (ek == key) = false := by rw [beq_eq_false_iff_ne]; exact hk
        have HEK := Lib.hid hk
        rw [hkb] at HH
        clear hk hkb HV hval
        go_wp2_with fail
        refine HH.out.mono ?_
        rintro e w' ⟨rfl, rfl⟩
        go_wp2
        exact HQ'.out _ _ ⟨by rw [HV2.out]; rfl, by
          have h3 := ChStep.same HS.out HC.out
          unfold delK
          rw [HV2.out]
          have hl9 : delL l key = l := by
            unfold delL
            have hd := cut_drop (key := key) (l1 := l1) (l2 := l2) (e := (ek, ev)) (by rw [← HE.out.1.2]; exact HE.out.2.2)
            rw [← HE.out.1.2] at hd
            rw [hd.1]
            exact if_neg HEK.out
          rw [hl9]
          simpa using h3⟩
    · have HH := Lib.hid (HC.out.hasTail (b := n) (by rw [← h2]; exact hn) key)
      have HV2 := Lib.hid (show getV l key = (0, false) from by unfold getV; rw [h2]; simp)
      have hpp : p = p' := by
        rw [h2, ← h1, hb] at hp
        simpa using hp.symm
      have hnn : n = n' := by
        rw [h2, ← h1, hb, List.getElem?_append_right (by omega)] at hn
        simpa using hn.symm
      subst hpp hnn
      have HE := Lib.hid (And.intro hb (And.intro h1 h2))
      clear hp hn hb h1 h2
      go_wp2_with fail
      refine HH.out.mono ?_
      rintro e w' ⟨rfl, rfl⟩
      go_wp2
      exact HQ'.out _ _ ⟨by rw [HV2.out]; rfl, by
        have h3 := ChStep.same HS.out HC.out
        unfold delK
        rw [HV2.out]
        have hl9 : delL l key = l := by
          unfold delL
          rw [HE.out.2.2, List.drop_eq_nil_iff.2 (Nat.le_refl _)]
        rw [hl9]
        simpa using h3⟩
set_option maxHeartbeats 4000000 in
set_option maxRecDepth 100000 in
theorem chain_add (B B' : Nat) (w : World) (g : Option Nat) (ks : List Int) (R : Nat → Option RecO) (X : Nat → Option ScxO) (bs : List Nat) (l : List (Int × Int)) (c : Nat) (key val : Int) (h : Chn B w R X bs l) (hg : GAtI w B' g ks) (hB : B' ≤ w.heap.size) (hBB : B ≤ w.heap.size) (hl : ks.length ≤ 600000000) (hll : l.length ≤ 1000000) (hc : Blk w c TCH [pv bs[0]?]) :
    Calls Try.prog 12 #[.pointer (some ⟨c, 0, none⟩), gvI g, .int .i64 key, .int .i64 val] w fun e w' => e = .returned (.tuple #[.int .i64 (getV l key).1, .bool (!(getV l key).2)]) ∧ ChStep B B' g w R X bs (ks ++ addK l key) (addL l key val) w' := by
  refine calls_hide fun Q HQ => ?_
  have HQ' := Lib.hid HQ
  have HW := Lib.hid (chain_walk B B' w g ks R X bs l c key h hg hB (by omega) hll hc)
  have HS0 := Lib.hid (Step.refl hg (fun _ => False))
  have HSZ := Lib.hid (And.intro hB hBB)
  have hloc := loc h key
  have HR0 := Lib.hid h.len
  clear HQ h hg hc
  go_enter Try.func12, Try.ntmps12
  go_wp2
  go_loopw [12] (fun v wr => w = wr) (fun _ _ => 0)
  case atStart => exact rfl
  case round =>
    obtain rfl : w = wr := hrel
    go_wp2_with fail
    refine HW.out.mono ?_
    rintro e w1 ⟨p, n, hp, hn, rfl, hs, hch⟩
    have HS := Lib.hid (HS0.out.trans hs (fun _ _ x => x))
    have HC := Lib.hid hch
    have HZ := Lib.hid (And.intro (Nat.le_trans HSZ.out.1 hs.fr.size) (Nat.le_trans HSZ.out.2 hs.fr.size))
    have HKL := Lib.hid (show (ks ++ List.replicate (cutN l key + 1) 1).length ≤ 700000000 by have := cutN_le l key; simp; omega)
    clear hs hch HW HS0 HSZ
    rcases hloc with ⟨pre, post, p', n', n2, l1, l2, e, hb, hle, h1, h2⟩ | ⟨pre, p', n', hb, h1, h2⟩
    · have hlt : cutN l key < l.length := by rw [h2, hle]; simp
      have HH := Lib.hid (HC.out.hasItem hlt hn key)
      have he : l[cutN l key] = e := by
        have : l[cutN l key]? = some e := by rw [h2, hle]; simp
        exact (List.getElem?_eq_some_iff.1 this).2
      have hpp : p = p' := by
        rw [h2, ← h1, hb] at hp
        simpa using hp.symm
      have hnn : n = n' := by
        rw [h2, ← h1, hb, List.getElem?_append_right (by omega)] at hn
        simpa using hn.symm
      have HKY := HC.out.key hlt hn
      have HRN := HC.out.at_ (cutN l key + 1) n hn
      subst hpp hnn
      have HV := Lib.hid (show getV l key = if e.1 = key then (e.2, true) else (0, false) from by
        subst hle
        unfold getV; rw [(cut_drop h2).1])
      have HE := Lib.hid (And.intro (And.intro hb hle) (And.intro h1 h2))
      rw [he] at HH HKY
      rw [psOf_at l hlt, he] at HRN
      obtain ⟨_, hval⟩ := HKY
      obtain ⟨fbn, xn, on, hrn, _⟩ := HRN
      have HRN := Lib.hid hrn
      clear hp hn hb hle h1 h2 hlt he hrn
      obtain ⟨ek, ev⟩ := e
      simp only at hval HV HH HRN
      by_cases hk : ek = key
      · have HV2 := Lib.hid (show getV l key = (ev, true) from by rw [HV.out, if_pos hk])
        have hkb : (ek == key) = true := by rw [beq_iff_eq]; exact hk
        have HEK := Lib.hid hk
        rw [hkb] at HH
        clear hk hkb HV
        go_wp2_with fail
        refine HH.out.mono ?_
        rintro e w' ⟨rfl, rfl⟩
        go_wp2
        exact HQ'.out _ _ ⟨by rw [HV2.out]; rfl, by
          have h3 := ChStep.same HS.out HC.out
          unfold addK
          rw [HV2.out]
          rw [show addL l key val = l from by unfold addL; rw [HV2.out]; rfl]
          simpa using h3⟩
      · have HV2 := Lib.hid (show getV l key = (0, false) from by rw [HV.out, if_neg hk])
        have hkb : (ek == key) = false := by rw [beq_eq_false_iff_ne]; exact hk
        have HEK := Lib.hid hk
        rw [hkb] at HH
        clear hk hkb HV hval
        have HI := Lib.hid (Chn.insert (pre := pre) (p := p) (n := n) (post := n2 :: post) (l1 := l1) (l2 := (ek, ev) :: l2) (by rw [← HE.out.1.1, ← HE.out.1.2]; exact HC.out) HS.out.gate HZ.out.1 HZ.out.2 HKL.out HE.out.2.1 key val)
        have HLS := Lib.hid (show l1 ++ (key, val) :: (ek, ev) :: l2 = addL l key val from by
          unfold addL; rw [HV2.out]; simp only [Bool.false_eq_true, if_false]; unfold putL
          have hd := cut_drop (key := key) (l1 := l1) (l2 := l2) (e := (ek, ev)) (by rw [← HE.out.1.2]; exact HE.out.2.2)
          rw [← HE.out.1.2] at hd
          rw [hd.1, hd.2]
          exact (if_neg HEK.out).symm)
        go_wp2_with fail
        refine HH.out.mono ?_
        rintro e w' ⟨rfl, rfl⟩
        go_wp2_with fail
        refine HI.out.mono ?_
        rintro e w2 ⟨rfl, hst⟩
        have HFIN := Lib.hid (show ChStep B B' g w R X bs (ks ++ addK l key) (addL l key val) w2 from by
          rw [← HLS.out]
          
          have h3 := ChStep.after HS.out hst
          unfold addK
          rw [HV2.out, HE.out.1.1]
          rw [List.append_assoc] at h3
          exact h3)
        clear hst HI
        go_wp2
        exact HQ'.out _ _ ⟨by rw [HV2.out]; rfl, HFIN.out⟩
    · have HH := Lib.hid (HC.out.hasTail (b := n) (by rw [← h2]; exact hn) key)
      have HV2 := Lib.hid (show getV l key = (0, false) from by unfold getV; rw [h2]; simp)
      have hpp : p = p' := by
        rw [h2, ← h1, hb] at hp
        simpa using hp.symm
      have hnn : n = n' := by
        rw [h2, ← h1, hb, List.getElem?_append_right (by omega)] at hn
        simpa using hn.symm
      subst hpp hnn
      have HE := Lib.hid (And.intro hb (And.intro h1 h2))
      clear hp hn hb h1 h2
      have HI := Lib.hid (Chn.insert (pre := pre) (p := p) (n := n) (post := []) (l1 := l) (l2 := []) (by rw [List.append_nil, ← HE.out.1]; exact HC.out) HS.out.gate HZ.out.1 HZ.out.2 HKL.out HE.out.2.1 key val)
      have HLS := Lib.hid (show l ++ [(key, val)] = addL l key val from by unfold addL; rw [HV2.out]; simp only [Bool.false_eq_true, if_false]; unfold putL; rw [HE.out.2.2]; simp)
      go_wp2_with fail
      refine HH.out.mono ?_
      rintro e w' ⟨rfl, rfl⟩
      go_wp2_with fail
      refine HI.out.mono ?_
      rintro e w2 ⟨rfl, hst⟩
      have HFIN := Lib.hid (show ChStep B B' g w R X bs (ks ++ addK l key) (addL l key val) w2 from by
        rw [← HLS.out]
        
        have h3 := ChStep.after HS.out hst
        unfold addK
        rw [HV2.out, HE.out.1]
        rw [List.append_assoc] at h3
        exact h3)
      clear hst HI
      go_wp2
      exact HQ'.out _ _ ⟨by rw [HV2.out]; rfl, HFIN.out⟩
end Go.Proofs.Yteeficpjggimcaa

/- chain: Pairs. -/
namespace Go.Proofs.Yteeficpjggimcaa
open Go.RowKit Go.Proofs.YteeficpjggimcaaW.PrintWords
set_option linter.unusedVariables false
set_option linter.unusedSimpArgs false

abbrev TPAs : Nat := 22
theorem pinfo_pair : (Try.prog.info? TPA).map (fun i => (i.zero, i.size, i.bytes)) = some (some (.agg #[.int .i64 0, .int .i64 0]), 2, 16) := by kernel_rfl
/-- A pair's cells. -/
def pcells (p : Int × Int) : List Value := [.int .i64 p.1, .int .i64 p.2]
theorem take_pairs (l : List (Int × Int)) (j : Nat) (h : j < l.length) : (l.take j).flatMap pcells ++ pcells l[j] = (l.take (j + 1)).flatMap pcells := by
  rw [← take_next l j h, List.flatMap_append]; simp
theorem Chn.getN {B : Nat} {w : World} {R : Nat → Option RecO} {X : Nat → Option ScxO} {bs : List Nat} {l : List (Int × Int)} (h : Chn B w R X bs l) {i b n : Nat} (hb : bs[i]? = some b) (hn : bs[i + 1]? = some n) :
    Calls Try.prog 33 #[.pointer (some ⟨b, 0, none⟩), .nilIface, .int .i64 0] w fun e w' => e = .returned (.pointer (some ⟨n, 0, none⟩)) ∧ w = w' := by
  obtain ⟨fb, x, o, h1, _⟩ := h.at_ i b hb
  rw [hn] at h1
  exact getn_apiPair R X w h.rep b _ h1 0 (by omega) (by simp)
set_option maxHeartbeats 4000000 in
set_option maxRecDepth 100000 in
theorem chain_pairs (B : Nat) (w : World) (R : Nat → Option RecO) (X : Nat → Option ScxO) (bs : List Nat) (l : List (Int × Int)) (c : Nat) (h : Chn B w R X bs l) (hll : l.length ≤ 1000000) (hc : Blk w c TCH [pv bs[0]?]) :
    Calls Try.prog 18 #[.pointer (some ⟨c, 0, none⟩)] w fun e w' => ∃ v, e = .returned v ∧ w'.ownsRow w.heap.size TPA 2 v l.length (l.flatMap pcells) ∧ Below w.heap.size w w' := by
  refine calls_hide fun Q HQ => ?_
  have HQ' := Lib.hid HQ
  have HC0 := Lib.hid h
  have HN := Lib.hid h.nd
  have HL := Lib.hid h.len
  have hbl : bs[0]? = some (bs[0]'(by have := h.len; omega)) := List.getElem?_eq_getElem (by have := h.len; omega)
  have hb2 : bs[0 + 1]? = some (bs[1]'(by have := h.len; omega)) := List.getElem?_eq_getElem (by have := h.len; omega)
  rw [hbl] at hc
  have HG0 := Lib.hid (h.getN hbl hb2)
  have HB1 := Lib.hid hb2
  generalize bs[0]'(by have := h.len; omega) = b0 at *
  generalize bs[1]'(by have := h.len; omega) = b1 at *
  have hc0 : w.cell? ⟨c, 0, none⟩ = some (.pointer (some ⟨b0, 0, none⟩)) := hc.cell 0
  clear HQ h hbl hb2 hc
  go_enter Try.func18, Try.ntmps18
  go_wp2_with fail
  refine HG0.out.mono ?_
  rintro e w' ⟨rfl, rfl⟩
  clear HG0 hc0
  go_wp2
  go_loopw [3, 4] (fun v r wr => ∃ (j b : Nat), j ≤ l.length ∧ bs[j + 1]? = some b ∧ r = .pointer (some ⟨b, 0, none⟩) ∧ Below w.heap.size w wr ∧ wr.ownsRow w.heap.size TPA 2 v j ((l.take j).flatMap pcells)) (fun _ r _ => bs.length - ptrIdx bs r)
  case atStart => exact ⟨0, b1, Nat.zero_le _, HB1.out, rfl, Below.refl _ _, World.ownsRow_nil _ _ _ _⟩
  case round =>
    clear HB1
    obtain ⟨j, b, hj, hb, rfl, hbel, hown⟩ := hrel
    have HC := Lib.hid (HC0.out.below hbel)
    have HBL := Lib.hid hbel
    have HO := Lib.hid hown
    have HB := Lib.hid hb
    clear hb hbel hown
    by_cases hlt : j < l.length
    · have HT := Lib.hid (HC.out.tailNo (i := j + 1) (by omega) HB.out)
      obtain ⟨hk, hv⟩ := HC.out.key hlt HB.out
      have HTK := Lib.hid (take_pairs l j hlt)
      obtain ⟨n2, hn2⟩ : ∃ n2, bs[j + 1 + 1]? = some n2 := ⟨bs[j + 1 + 1]'(by have := HL.out; omega), List.getElem?_eq_getElem (by have := HL.out; omega)⟩
      have HN2 := Lib.hid hn2
      generalize l[j] = pr at *
      obtain ⟨pk, pw⟩ := pr
      simp only at hk hv
      clear hn2
      go_wp2_with fail
      refine HT.out.mono ?_
      rintro e w' ⟨rfl, rfl⟩
      go_wp2_with (at_builtin; refine print_append_cells (w0 := w) w.heap.size rfl _ _ TPAs TPA (.agg #[.int .i64 0, .int .i64 0]) 2 16 rfl Try.underlying22 pinfo_pair rfl (by decide) (by decide) u3 j _ [.int .i64 pk, .int .i64 pw] rfl rfl rfl (by simp [Value.oneCell']) HO.out HBL.out HBL.out.size (by omega) ?_)
      intro a1 w6 hown1 hb1 hg1 hat1
      have HO2 := Lib.hid (show w6.ownsRow w.heap.size TPA 2 a1 (j + 1) ((l.take (j + 1)).flatMap pcells) from by rw [← HTK.out]; exact hown1)
      have HBL2 := Lib.hid hb1
      have HG := Lib.hid ((HC0.out.below hb1).getN HB.out HN2.out)
      clear hown1 hb1 hg1 hat1 HT HTK hk hv
      go_wp2_with fail
      refine HG.out.mono ?_
      rintro e w' ⟨rfl, rfl⟩
      go_wp2
      go_roundw
      case rel => exact ⟨j + 1, n2, by omega, HN2.out, rfl, HBL2.out, HO2.out⟩
      case measure =>
        show bs.length - ptrIdx bs (.pointer (some ⟨n2, 0, none⟩)) < bs.length - ptrIdx bs (.pointer (some ⟨b, 0, none⟩))
        rw [ptrIdx_at HN.out HN2.out, ptrIdx_at HN.out HB.out]
        have := HL.out
        omega
    · have hje : j = l.length := by omega
      subst hje
      have HT := Lib.hid (HC.out.tailYes HB.out)
      have HO2 := Lib.hid (show wr.ownsRow w.heap.size TPA 2 u3 l.length (l.flatMap pcells) from by have := HO.out; rwa [List.take_of_length_le (Nat.le_refl _)] at this)
      go_wp2_with fail
      refine HT.out.mono ?_
      rintro e w' ⟨rfl, rfl⟩
      go_wp2
      exact HQ'.out _ _ ⟨_, rfl, HO2.out, HBL.out⟩
end Go.Proofs.Yteeficpjggimcaa

/- chain: links, VLX. -/
namespace Go.Proofs.Yteeficpjggimcaa
open Go.RowKit Go.Proofs.YteeficpjggimcaaW.PrintWords
set_option linter.unusedVariables false
set_option linter.unusedSimpArgs false

abbrev TLKs : Nat := 89
theorem pinfo_lk : (Try.prog.info? TLK).map (fun i => (i.zero, i.size, i.bytes)) = some (some (.agg #[.pointer none, .pointer none, .slice none 0 0]), 3, 40) := by kernel_rfl
theorem own_fresh {w : World} {base e size n s : Nat} {us : List Value} (hb : Blk w s e us) (hl : us.length = n * size) (hbase : base ≤ s) (hn : n ≤ maxLen) : w.ownsRow base e size (.slice (some ⟨s, 0, none⟩) n n) n us :=
  ⟨hl, .inr ⟨s, n, us.toArray, rfl, hbase, hb, Nat.le_refl _, hn, by simpa using hl, by simp [← hl]⟩⟩
theorem set3_size (w : World) (b : Nat) (u v z : Value) : (((w.setCell ⟨b, 0, none⟩ u).setCell ⟨b, 1, none⟩ v).setCell ⟨b, 2, none⟩ z).heap.size = w.heap.size := by simp [World.setCell]
def slLen : Value → Nat
  | .slice _ n _ => n
  | _ => 0
theorem own_slLen {w : World} {base e size n : Nat} {v : Value} {us : List Value} (h : w.ownsRow base e size v n us) : slLen v = n := by
  rcases h.2 with ⟨hv, hn⟩ | ⟨g, cap, cur, hv, _⟩
  · subst hv; exact hn.symm
  · subst hv; rfl
/-- Links of the first records of the list. -/
def LkOf (R : Nat → Option RecO) (bs : List Nat) (L : List Lk) : Prop := ∀ (i : Nat) y, L[i]? = some y → bs[i]? = some y.r ∧ ∃ o, R y.r = some o ∧ o.info = some y.x
/-- While links goes: j items have been linked. -/
structure LsAt (B B' : Nat) (g : Option Nat) (w : World) (t8 : Nat) (ks : List Int) (R : Nat → Option RecO) (X : Nat → Option ScxO) (bs : List Nat) (l : List (Int × Int)) (j : Nat) (L : List Lk) (y : Lk) (v : Value) (wr : World) : Prop where
  st : StepI B' g w wr (ks ++ List.replicate (6 * (j + 1)) 1) (fun _ => False)
  chn : Chn B wr R X bs l
  own : wr.ownsRow w.heap.size TLK 3 v (j + 1) (L.flatMap Lk.cells)
  len : L.length = j + 1
  lk : LkOf R bs L
  cell : Blk wr t8 TLK y.cells
  ne : v.ownBlock ≠ some t8
  hi : w.heap.size ≤ t8
  row : ∃ a n, y.A = some ⟨a, 0, none⟩ ∧ y.n = 1 ∧ bs[j + 1]? = some n ∧ wr.cell? ⟨a, 0, none⟩ = some (.pointer (some ⟨n, 0, none⟩))
set_option maxHeartbeats 4000000 in
set_option maxRecDepth 100000 in
theorem chain_links (B B' : Nat) (w : World) (g : Option Nat) (ks : List Int) (R : Nat → Option RecO) (X : Nat → Option ScxO) (bs : List Nat) (l : List (Int × Int)) (c : Nat) (hi : Int) (h : Chn B w R X bs l) (hg : GAtI w B' g ks) (hB : B' ≤ w.heap.size) (hl : ks.length ≤ 600000000) (hll : l.length ≤ 1000000) (hc : Blk w c TCH [pv bs[0]?]) :
    Calls Try.prog 31 #[.pointer (some ⟨c, 0, none⟩), gvI g, .int .i64 hi] w fun e w' => ∃ v L, e = .returned (.tuple #[v, .bool true]) ∧ L.length = cutN l (hi + 1) + 1 ∧ LkOf R bs L ∧
      w'.ownsRow w.heap.size TLK 3 v (cutN l (hi + 1) + 1) (L.flatMap Lk.cells) ∧ StepI B' g w w' (ks ++ List.replicate (6 * (cutN l (hi + 1) + 1)) 1) (fun _ => False) ∧ Chn B w' R X bs l := by
  refine calls_hide fun Q HQ => ?_
  have HQ' := Lib.hid HQ
  have HN := Lib.hid h.nd
  have HLN := Lib.hid h.len
  have hbl : bs[0]? = some (bs[0]'(by have := h.len; omega)) := List.getElem?_eq_getElem (by have := h.len; omega)
  have hb2 : bs[0 + 1]? = some (bs[1]'(by have := h.len; omega)) := List.getElem?_eq_getElem (by have := h.len; omega)
  rw [hbl] at hc
  obtain ⟨fb0, x, o, hb, hx, hst⟩ := h.at_ 0 _ hbl
  rw [hb2] at hb
  simp only [Option.toList_some, List.map_cons, List.map_nil] at hb
  have HL := Lib.hid (h.link hg hB (by omega) hb (by simp) hx hst)
  have HRB := Lib.hid hb
  have HB0 := Lib.hid hbl
  have HB1 := Lib.hid hb2
  have HG := Lib.hid hg
  generalize bs[0]'(by have := h.len; omega) = b0 at *
  generalize bs[1]'(by have := h.len; omega) = b1 at *
  have hc0 : w.cell? ⟨c, 0, none⟩ = some (.pointer (some ⟨b0, 0, none⟩)) := hc.cell 0
  clear HQ h hg hbl hb2 hc hb hx hst
  go_enter Try.func31, Try.ntmps31
  go_wp2_with fail
  refine HL.out.mono ?_
  rintro e w1 ⟨A9, c9, rfl, ho, hs, hch⟩
  simp only [List.length_cons, List.length_nil, Nat.zero_add, List.map_cons, List.map_nil] at ho hs
  obtain ⟨a9, e9, hr9, _⟩ := owns_one ho
  subst e9
  have hbw := (Below.refl w1.heap.size w1).alloc (Nat.le_refl _) (.cells #[.pointer (some ⟨b0, 0, none⟩), .pointer (some ⟨x, 0, none⟩), .slice (some ⟨a9, 0, none⟩) 1 c9] TLK)
  have HK2 := Lib.hid (Blk.new w1 TLK [.pointer (some ⟨b0, 0, none⟩), .pointer (some ⟨x, 0, none⟩), .slice (some ⟨a9, 0, none⟩) 1 c9])
  have HS2 := Lib.hid (step_new hs (Fr.of_below0 (S := fun _ => False) hbw) (fun _ hk => hk.elim))
  have HC2 := Lib.hid (hch.below hbw)
  have HR2 := Lib.hid (pw_cell_below hbw hr9)
  have HSZ1 := Lib.hid hs.fr.size
  have k0 := HK2.out.cell 0
  have k1 := HK2.out.cell 1
  have k2 := HK2.out.cell 2
  simp only [List.getElem?_cons_zero, List.getElem?_cons_succ] at k0 k1 k2
  clear hbw hs hch ho hr9 HL hc0
  go_wp2_with fail
  have hbw2 := (Below.refl (w1.alloc (.cells #[.pointer (some ⟨b0, 0, none⟩), .pointer (some ⟨x, 0, none⟩), .slice (some ⟨a9, 0, none⟩) 1 c9] TLK)).heap.size (w1.alloc (.cells #[.pointer (some ⟨b0, 0, none⟩), .pointer (some ⟨x, 0, none⟩), .slice (some ⟨a9, 0, none⟩) 1 c9] TLK))).alloc (Nat.le_refl _) (.cells #[.pointer (some ⟨b0, 0, none⟩), .pointer (some ⟨x, 0, none⟩), .slice (some ⟨a9, 0, none⟩) 1 c9] TLK)
  have HI0 := Lib.hid (show LsAt B B' g w w1.heap.size ks R X bs l 0 [⟨b0, x, some ⟨a9, 0, none⟩, 1, c9⟩] ⟨b0, x, some ⟨a9, 0, none⟩, 1, c9⟩ (.slice (some ⟨w1.heap.size + 1, 0, none⟩) 1 1) ((w1.alloc (.cells #[.pointer (some ⟨b0, 0, none⟩), .pointer (some ⟨x, 0, none⟩), .slice (some ⟨a9, 0, none⟩) 1 c9] TLK)).alloc (.cells #[.pointer (some ⟨b0, 0, none⟩), .pointer (some ⟨x, 0, none⟩), .slice (some ⟨a9, 0, none⟩) 1 c9] TLK)) from
    ⟨step_new HS2.out (Fr.of_below0 (S := fun _ => False) hbw2) (fun _ hk => hk.elim), HC2.out.below hbw2,
      own_fresh (s := w1.heap.size + 1) (by have := Blk.new (w1.alloc (.cells #[.pointer (some ⟨b0, 0, none⟩), .pointer (some ⟨x, 0, none⟩), .slice (some ⟨a9, 0, none⟩) 1 c9] TLK)) TLK [.pointer (some ⟨b0, 0, none⟩), .pointer (some ⟨x, 0, none⟩), .slice (some ⟨a9, 0, none⟩) 1 c9]; rw [World.size_alloc] at this; exact this) rfl (by have := HSZ1.out; omega) (by simp [maxLen]), rfl,
      fun i y hy => by
        rcases i with _ | i
        · simp only [List.getElem?_cons_zero, Option.some.injEq] at hy
          subst hy
          exact ⟨HB0.out, _, HRB.out, rfl⟩
        · simp at hy,
      HK2.out.below hbw2 HK2.out.lt, by simp [Value.ownBlock], HSZ1.out, a9, b1, rfl, rfl, HB1.out, pw_cell_below hbw2 HR2.out⟩)
  clear hbw2 HS2 HC2 HK2 HR2 k0 k1 k2 HRB HB0 HB1
  generalize (w1.alloc (.cells #[.pointer (some ⟨b0, 0, none⟩), .pointer (some ⟨x, 0, none⟩), .slice (some ⟨a9, 0, none⟩) 1 c9] 95)).alloc (.cells #[.pointer (some ⟨b0, 0, none⟩), .pointer (some ⟨x, 0, none⟩), .slice (some ⟨a9, 0, none⟩) 1 c9] 95) = w2 at *
  generalize w1.heap.size = t8 at *
  go_loopw [9, 10] (fun ok v wr => ∃ (j : Nat) (L : List Lk) (y : Lk), j ≤ cutN l (hi + 1) ∧ j ≤ l.length ∧ ok = .bool true ∧ LsAt B B' g w t8 ks R X bs l j L y v wr) (fun _ v _ => bs.length - slLen v)
  case atStart => exact ⟨0, _, _, Nat.zero_le _, Nat.zero_le _, rfl, HI0.out⟩
  case round =>
    clear HI0
    obtain ⟨j, L, y, hj, hjl, rfl, hI⟩ := hrel
    obtain ⟨a, n, eA, en, hn, hrow⟩ := hI.row
    obtain ⟨yr, yx, yA, yn, yc⟩ := y
    simp only at eA en
    subst eA en
    have k2 := hI.cell.cell 2
    simp only [Lk.cells, List.getElem?_cons_zero, List.getElem?_cons_succ] at k2
    have HI := Lib.hid hI
    have HNB := Lib.hid hn
    clear hI hn
    by_cases hjt : j < l.length
    · have HT := Lib.hid (HI.out.chn.tailNo (i := j + 1) (by omega) HNB.out)
      obtain ⟨hk, _⟩ := HI.out.chn.key hjt HNB.out
      by_cases hgt : hi < l[j].1
      · have HJ := Lib.hid (cutN_at hj hjt (by omega))
        generalize l[j].1 = k at *
        clear hj
        go_wp2_with fail
        refine HT.out.mono ?_
        rintro e w' ⟨rfl, rfl⟩
        go_wp2
        exact HQ'.out _ _ ⟨_, L, rfl, by rw [HJ.out]; exact HI.out.len, HI.out.lk, by rw [HJ.out]; exact HI.out.own, by rw [HJ.out]; exact HI.out.st, HI.out.chn⟩
      · have HJ := Lib.hid (cutN_on hj hjt (by omega))
        generalize l[j].1 = k at *
        clear hj
        obtain ⟨n2, hn2⟩ : ∃ n2, bs[j + 1 + 1]? = some n2 := ⟨bs[j + 1 + 1]'(by have := HLN.out; omega), List.getElem?_eq_getElem (by have := HLN.out; omega)⟩
        obtain ⟨fbn, xn, on, hrn, hxn, hsn⟩ := HI.out.chn.at_ (j + 1) n HNB.out
        rw [hn2] at hrn
        simp only [Option.toList_some, List.map_cons, List.map_nil] at hrn
        have HN2 := Lib.hid hn2
        have HRN := Lib.hid hrn
        have HL := Lib.hid (HI.out.chn.link HI.out.st.gate (Nat.le_trans hB HI.out.st.fr.size) (by simp; omega) hrn (by simp) hxn hsn)
        clear hn2 hrn hxn hsn
        go_wp2_with fail
        refine HT.out.mono ?_
        rintro e w' ⟨rfl, rfl⟩
        go_wp2_with fail
        refine HL.out.mono ?_
        rintro e w3 ⟨A7, c7, rfl, ho, hs, hch⟩
        simp only [List.length_cons, List.length_nil, Nat.zero_add, List.map_cons, List.map_nil] at ho hs
        obtain ⟨a7, e7, hr7, _⟩ := owns_one ho
        subst e7
        have HK3 := Lib.hid (hs.blk HI.out.st.gate HI.out.cell (by decide) (by decide) (fun x => x))
        have HO3 := Lib.hid (show w3.ownsRow w.heap.size TLK 3 u10 (j + 1) (L.flatMap Lk.cells) from owns_fr HI.out.own hs.fr (fun q hq hx => by
          rcases hx with hx | hx
          · obtain ⟨ys, hy⟩ := owns_typed HI.out.own q hq
            exact HI.out.st.gate.apart hy (by decide) (by decide) hx
          · exact hx))
        have HS3 := Lib.hid (HI.out.st.trans hs (fun _ _ x => x))
        have HC3 := Lib.hid hch
        have HW7 := Lib.hid ho
        have k0 := HK3.out.cell 0
        have k1 := HK3.out.cell 1
        have k2' := HK3.out.cell 2
        have kz0 : w3.frozen? ⟨t8, 0, none⟩ = false := HK3.out.free _ rfl
        have kz1 : w3.frozen? ⟨t8, 1, none⟩ = false := HK3.out.free _ rfl
        have kz2 : w3.frozen? ⟨t8, 2, none⟩ = false := HK3.out.free _ rfl
        simp only [Lk.cells, List.getElem?_cons_zero, List.getElem?_cons_succ] at k0 k1 k2'
        clear ho hs hch hr7 HT HL
        have hf := set3_fr w3 t8 (.pointer (some ⟨n, 0, none⟩)) (.pointer (some ⟨xn, 0, none⟩)) (.slice (some ⟨a7, 0, none⟩) 1 c7)
        have hk4 : Blk _ t8 TLK [.pointer (some ⟨n, 0, none⟩), .pointer (some ⟨xn, 0, none⟩), .slice (some ⟨a7, 0, none⟩) 1 c7] := ((HK3.out.set 0 (.pointer (some ⟨n, 0, none⟩))).set 1 (.pointer (some ⟨xn, 0, none⟩))).set 2 (.slice (some ⟨a7, 0, none⟩) 1 c7)
        have HK4 := Lib.hid hk4
        have hS : ∀ k, k = t8 → ∃ T ys, Blk w3 k T ys ∧ T = TLK := fun k hk => ⟨_, _, hk ▸ HK3.out, rfl⟩
        have HO4 := Lib.hid (owns_fr HO3.out hf (fun q hq hx => HI.out.ne (hx ▸ hq)))
        have HW4 := Lib.hid (owns_types HW7.out hf (fun k hk => by obtain ⟨T, ys, hy, rfl⟩ := hS k hk; exact ⟨_, ys, hy, by decide⟩))
        have HS4 := Lib.hid (step_new HS3.out hf (fun k hk => by obtain ⟨T, ys, hy, rfl⟩ := hS k hk; exact ⟨by rw [hk]; exact HI.out.hi, _, ys, hy, by decide, by decide⟩))
        have HC4 := Lib.hid (HC3.out.types hf (fun k hk => by obtain ⟨T, ys, hy, rfl⟩ := hS k hk; exact ⟨_, ys, hy, by decide, by decide, by decide⟩))
        have m0 := HK4.out.cell 0
        have m1 := HK4.out.cell 1
        have m2 := HK4.out.cell 2
        simp only [List.getElem?_cons_zero, List.getElem?_cons_succ] at m0 m1 m2
        clear hf hk4 hS HW7
        go_wp2_with (at_builtin; refine print_append_cells (w0 := ((w3.setCell ⟨t8, 0, none⟩ (.pointer (some ⟨n, 0, none⟩))).setCell ⟨t8, 1, none⟩ (.pointer (some ⟨xn, 0, none⟩))).setCell ⟨t8, 2, none⟩ (.slice (some ⟨a7, 0, none⟩) 1 c7)) w.heap.size rfl _ _ TLKs TLK (.agg #[.pointer none, .pointer none, .slice none 0 0]) 3 40 rfl Try.underlying89 pinfo_lk rfl (by decide) (by decide) u10 (j + 1) _ [.pointer (some ⟨n, 0, none⟩), .pointer (some ⟨xn, 0, none⟩), .slice (some ⟨a7, 0, none⟩) 1 c7] rfl (by rw [set3_size]; rfl) rfl (by simp [Value.oneCell']) HO4.out (Below.refl _ _) (by have := HS4.out.fr.size; omega) (by omega) ?_)
        intro a1 w6 hown1 hb1 hg1 hat1
        have hne : ∀ q, some q = u10.ownBlock → q ≠ t8 ∧ w.heap.size ≤ q ∧ ∃ ys, Blk (((w3.setCell ⟨t8, 0, none⟩ (.pointer (some ⟨n, 0, none⟩))).setCell ⟨t8, 1, none⟩ (.pointer (some ⟨xn, 0, none⟩))).setCell ⟨t8, 2, none⟩ (.slice (some ⟨a7, 0, none⟩) 1 c7)) q TLK ys := fun q hq => by
          refine ⟨fun e => HI.out.ne (by rw [← e]; exact hq.symm), (World.ownsRow.lt HO4.out q hq.symm).1, ?_⟩
          exact owns_typed HO4.out q hq.symm
        have HI2 := Lib.hid (show LsAt B B' g w t8 ks R X bs l (j + 1) (L ++ [⟨n, xn, some ⟨a7, 0, none⟩, 1, c7⟩]) ⟨n, xn, some ⟨a7, 0, none⟩, 1, c7⟩ a1 w6 from by
          obtain ⟨a7', e7', hr7', _⟩ := owns_one (owns_types HW4.out (Fr.of_grown hg1) (fun k hk => by obtain ⟨_, _, ys, hy⟩ := hne k hk; exact ⟨_, ys, hy, by decide⟩))
          cases e7'
          refine ⟨?_, HC4.out.types (Fr.of_grown hg1) (fun k hk => by obtain ⟨_, _, ys, hy⟩ := hne k hk; exact ⟨_, ys, hy, by decide, by decide, by decide⟩), ?_, by simp [HI.out.len], ?_, (Fr.of_grown hg1).blk HK4.out (fun e => (hne t8 e).1 rfl), ?_, HI.out.hi, a7, n2, rfl, rfl, HN2.out, hr7'⟩
          · have h5 := step_new HS4.out (Fr.of_grown hg1) (fun k hk => by obtain ⟨_, h6, ys, hy⟩ := hne k hk; exact ⟨h6, _, ys, hy, by decide, by decide⟩)
            rw [List.append_assoc, List.replicate_append_replicate] at h5
            exact h5
          · rw [List.flatMap_append]
            simpa [Lk.cells] using hown1
          · intro i z hz
            rcases Nat.lt_or_ge i L.length with h6 | h6
            · rw [List.getElem?_append_left h6] at hz
              exact HI.out.lk i z hz
            · rw [List.getElem?_append_right h6] at hz
              have h7 : i - L.length = 0 := by
                have := (List.getElem?_eq_some_iff.1 hz).1
                simp at this; omega
              rw [h7] at hz
              simp only [List.getElem?_cons_zero, Option.some.injEq] at hz
              subst hz
              have h8 : i = j + 1 := by have := HI.out.len; omega
              exact ⟨h8 ▸ HNB.out, _, HRN.out, rfl⟩
          · rcases hat1 with h6 | ⟨b6, h6, h7⟩
            · rw [h6]; exact fun e => (hne t8 e.symm).1 rfl
            · rw [h6]
              intro e
              cases e
              have := HK3.out.lt
              try rw [set3_size] at h7
              omega)
        have HLO := Lib.hid (And.intro (own_slLen HI.out.own) (own_slLen HI2.out.own))
        clear hown1 hb1 hg1 hat1 hne HO4 HW4 HS4 HC4 HK4 m0 m1 m2 k0 k1 k2' kz0 kz1 kz2 HS3 HC3 HO3 HK3
        go_wp2
        go_roundw
        case rel => exact ⟨j + 1, _, _, HJ.out, by omega, rfl, HI2.out⟩
        case measure =>
          show bs.length - slLen a1 < bs.length - slLen u10
          rw [HLO.out.1, HLO.out.2]
          have := HLN.out
          omega
    · have hje : j = l.length := by omega
      subst hje
      have HJ := Lib.hid (show cutN l (hi + 1) = l.length from Nat.le_antisymm (cutN_le l _) hj)
      have HT := Lib.hid (HI.out.chn.tailYes HNB.out)
      clear hj hjl
      go_wp2_with fail
      refine HT.out.mono ?_
      rintro e w' ⟨rfl, rfl⟩
      go_wp2
      exact HQ'.out _ _ ⟨_, L, rfl, by rw [HJ.out]; exact HI.out.len, HI.out.lk, by rw [HJ.out]; exact HI.out.own, by rw [HJ.out]; exact HI.out.st, HI.out.chn⟩
end Go.Proofs.Yteeficpjggimcaa
