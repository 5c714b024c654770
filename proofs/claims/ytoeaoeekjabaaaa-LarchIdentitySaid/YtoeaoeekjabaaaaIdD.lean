/- cell.Ids: check, the closures of and number. -/
import Derived.Test.YtoeaoeekjabaaaaIdC
namespace Go.Proofs.Ytoeaoeekjabaaaa
open Go.RowKit Go.Proofs.YtoeaoeekjabaaaaW.PrintWords
set_option linter.unusedVariables false
set_option linter.unusedSimpArgs false

abbrev fFits (br : Nat) : Value := .func (.func 10) #[] #[.pointer (some ⟨br, 0, none⟩)]
abbrev fSimple : Value := .func (.func 12) #[] #[]
set_option maxHeartbeats 1000000 in
theorem cell_check (w : World) (n : Nat) (A : Option Addr) (c : Nat) (l : List CA) (hx : CAsAt w A l) (hl : l.length ≤ 1000000000) (bt br : Nat) (t : Int) (h : BoxR w bt br t) :
    Calls Try.prog 11 #[.int .i64 n, .slice A l.length c, fSimple, fFits br] w fun e w' => e = .returned (.int .i64 (errL n t l)) ∧ Below w.heap.size w w' := by
  refine calls_hide fun Q HQ => ?_
  have HQ' := Lib.hid HQ
  have HX := Lib.hid hx
  have HB := Lib.hid h
  clear HQ hx h
  go_enter Try.func11, Try.ntmps11
  go_wp2
  go_loopw [13] (fun k wr => ∃ j : Nat, j ≤ l.length ∧ k = .int .i64 j ∧ Below w.heap.size w wr ∧ ∀ i x, i < j → l[i]? = some x → errX n t x = 0) (fun k _ => l.length - (intOf k).toNat)
  case atStart => exact ⟨0, Nat.zero_le _, rfl, Below.refl _ _, fun i n hi => by omega⟩
  case round =>
    obtain ⟨j, hj, rfl, hb, hr⟩ := hrel
    have HW := Lib.hid hb
    have HR := Lib.hid hr
    clear hb hr
    by_cases hlt : j < l.length
    · obtain ⟨x, hx⟩ : ∃ x, l[j]? = some x := ⟨_, List.getElem?_eq_getElem hlt⟩
      obtain ⟨b, o, rfl, c0, c1, c2, c3⟩ := (HX.out.below HW.out).at_ hx
      have hal := (Below.refl wr.heap.size wr).alloc (Nat.le_refl _) (.cells x.cells.toArray 28)
      have HW1 := Lib.hid (HW.out.trans (hal.mono HW.out.size))
      have hb := Blk.new wr 28 x.cells
      have h0 := hb.cell 0
      have h1 := hb.cell 1
      have h2 := hb.cell 2
      have h3 := hb.cell 3
      simp only [List.getElem?_cons_zero, List.getElem?_cons_succ] at h0 h1 h2 h3
      have HX1 := Lib.hid hx
      have HE := Lib.hid ((errL_take (n := n) (t := t) (l := l) (j := j) HR.out).1 x hx)
      have HXE := Lib.hid (show errX n t x = if ¬ knownI x.k then 5 else if x.at_ < 0 ∨ (n : Int) ≤ x.at_ ∨ ¬ fitsI t x then 1 else 0 from rfl)
      have HFI := Lib.hid (ids_fits (wr.alloc (.cells x.cells.toArray 28)) bt br t x (HB.out.below HW1.out))
      have HSI := Lib.hid (cell_simple (wr.alloc (.cells x.cells.toArray 28)) x.k)
      clear hx hal hb
      by_cases hkn : knownI x.k
      · rw [decide_eq_true hkn] at HSI
        by_cases hat : x.at_ < 0
        · rw [HE.out, (show errX n t x = 1 by rw [HXE.out, if_neg (fun h => h hkn), if_pos (.inl hat)]), if_neg (by decide)] at HQ'
          clear HFI hkn
          go_wp2_with fail
          refine HSI.out.mono ?_
          rintro e w1 ⟨rfl, rfl⟩
          go_wp2
          exact HQ'.out _ _ ⟨rfl, HW1.out⟩
        · by_cases hge : (n : Int) ≤ x.at_
          · rw [HE.out, (show errX n t x = 1 by rw [HXE.out, if_neg (fun h => h hkn), if_pos (.inr (.inl hge))]), if_neg (by decide)] at HQ'
            clear HFI hkn
            go_wp2_with fail
            refine HSI.out.mono ?_
            rintro e w1 ⟨rfl, rfl⟩
            go_wp2
            exact HQ'.out _ _ ⟨rfl, HW1.out⟩
          · by_cases hf : fitsI t x
            · rw [decide_eq_true hf] at HFI
              have HX0 := Lib.hid (show errX n t x = 0 by rw [HXE.out, if_neg (fun h => h hkn), if_neg (fun h => by rcases h with h | h | h; exact hat h; exact hge h; exact h hf)])
              clear hkn hf
              go_wp2_with fail
              refine HSI.out.mono ?_
              rintro e w1 ⟨rfl, rfl⟩
              go_wp2_with fail
              refine HFI.out.mono ?_
              rintro e w1 ⟨rfl, hb2⟩
              have HW2 := Lib.hid (HW1.out.trans (hb2.mono HW1.out.size))
              clear hb2 h0 h1 h2 h3 c0 c1 c2 c3
              go_wp2
              go_roundw
              case rel => exact ⟨j + 1, by omega, by go_num, HW2.out, fun i y hi hy => by
                rcases Nat.lt_or_ge i j with h1 | h1
                · exact HR.out i y h1 hy
                · have : i = j := by omega
                  subst this
                  rw [HX1.out] at hy
                  cases hy
                  exact HX0.out⟩
              case measure => simp [intOf]; omega
            · rw [decide_eq_false hf] at HFI
              rw [HE.out, (show errX n t x = 1 by rw [HXE.out, if_neg (fun h => h hkn), if_pos (.inr (.inr hf))]), if_neg (by decide)] at HQ'
              clear hkn hf
              go_wp2_with fail
              refine HSI.out.mono ?_
              rintro e w1 ⟨rfl, rfl⟩
              go_wp2_with fail
              refine HFI.out.mono ?_
              rintro e w1 ⟨rfl, hb2⟩
              have HW2 := Lib.hid (HW1.out.trans (hb2.mono HW1.out.size))
              clear hb2 h0 h1 h2 h3 c0 c1 c2 c3
              go_wp2
              exact HQ'.out _ _ ⟨rfl, HW2.out⟩
      · rw [decide_eq_false hkn] at HSI
        rw [HE.out, (show errX n t x = 5 by rw [HXE.out, if_pos hkn]), if_neg (by decide)] at HQ'
        clear HFI hkn
        go_wp2_with fail
        refine HSI.out.mono ?_
        rintro e w1 ⟨rfl, rfl⟩
        go_wp2
        exact HQ'.out _ _ ⟨rfl, HW1.out⟩
    · have hje : j = l.length := by omega
      subst hje
      have HE := Lib.hid ((errL_take (n := n) (t := t) (l := l) (j := l.length) HR.out).2 (Nat.le_refl _))
      rw [HE.out] at HQ'
      go_wp2
      exact HQ'.out _ _ ⟨rfl, HW.out⟩
/-- The closure 'of': the thing of a number. -/
def thOf (bs : List Nat) (n : Int) : Option Nat := if n < 0 then none else bs[n.toNat]?
theorem ids_of (w : World) (ba g : Nat) (bs : List Nat) (n : Int) (ha : w.cell? ⟨ba, 0, none⟩ = some (.slice (some ⟨g, 0, none⟩) bs.length bs.length)) (hg : Blk w g 37 (bs.map fun b => pv (some b))) (hn : rightI bs.length n) :
    Calls Try.prog 13 #[.int .i64 n, .pointer (some ⟨ba, 0, none⟩)] w fun e w' => e = .returned (pv (thOf bs n)) ∧ w = w' := by
  by_cases h : n < 0
  · rw [show thOf bs n = none by simp [thOf, h]]
    clear ha hg hn
    go_enter Try.func13, Try.ntmps13
    go_wp2
    go_ret
    exact ⟨rfl, rfl⟩
  · rw [show thOf bs n = bs[n.toNat]? by simp [thOf, h]]
    have hlt : n < bs.length := hn.2
    have hc : w.cell? ⟨g, n.toNat, none⟩ = some (pv bs[n.toNat]?) := by
      rw [hg.cell, List.getElem?_map]
      have : n.toNat < bs.length := by omega
      simp [List.getElem?_eq_getElem this]
    clear hg hn
    generalize bs[n.toNat]? = p at *
    go_enter Try.func13, Try.ntmps13
    go_wp2
    go_ret
    exact ⟨rfl, rfl⟩
/-- The closure 'number'. -/
theorem ids_number (w : World) (ba g : Nat) (bs : List Nat) (n : Int) (ha : w.cell? ⟨ba, 0, none⟩ = some (.slice (some ⟨g, 0, none⟩) bs.length bs.length)) (hg : Blk w g 37 (bs.map fun b => pv (some b)))
    (hk : ∀ b ∈ bs, ∃ T xs, Blk w b T xs) (hd : bs.Nodup) (hl : bs.length ≤ 64) (hn : rightI bs.length n) :
    Calls Try.prog 14 #[pv (thOf bs n), .pointer (some ⟨ba, 0, none⟩)] w fun e w' => e = .returned (.int .i64 n) ∧ w = w' := by
  have hidx : idx (bs.map some) (thOf bs n) = n := by
    unfold thOf
    split
    · rename_i h
      rw [idx_miss (fun j hj hx => by rw [List.getElem?_map] at hx; cases he : bs[j]? <;> simp [he] at hx)]
      have := hn.1
      omega
    · rename_i h
      have hlt : n.toNat < bs.length := by have := hn.2; omega
      rw [idx_hit (k := n.toNat) (by simpa using hlt) (fun j hj hx => by
        rw [List.getElem?_map] at hx
        rw [List.getElem?_eq_getElem hlt, List.getElem?_eq_getElem (by omega)] at hx
        simp at hx
        have := (List.getElem_inj hd).1 hx
        omega) (by rw [List.getElem?_map, List.getElem?_eq_getElem hlt]; rfl)]
      omega
  have hkn : Known w (thOf bs n) := fun b e => by
    unfold thOf at e
    split at e
    · cases e
    · exact hk b (List.mem_of_getElem? e)
  have HI := Lib.hid (index_Pcellthing (some ⟨g, 0, none⟩) bs.length (bs.map some) (thOf bs n) w (by
    have h0 := Row1.of_blk (rest := []) (us := bs.map fun b => pv (some b)) (by simpa using hg)
    have h1 : (bs.map some).map pv = bs.map fun b => pv (some b) := by rw [List.map_map]; rfl
    rw [h1, List.length_map]
    rwa [List.length_map] at h0) (fun p hp b e => by
      subst e
      obtain ⟨b', hb', e2⟩ := List.mem_map.1 hp
      cases e2
      exact hk _ hb') hkn (by simp; omega))
  rw [hidx] at HI
  rw [List.length_map] at HI
  generalize thOf bs n = p at *
  clear hg hk hd hn hidx hkn
  go_enter Try.func14, Try.ntmps14
  go_wp2_with fail
  refine HI.out.mono ?_
  rintro e w1 ⟨rfl, rfl⟩
  go_wp2
  go_ret
  exact ⟨rfl, rfl⟩
end Go.Proofs.Ytoeaoeekjabaaaa
