/- cell.Ids, walked. -/
import Derived.Test.YtoeaoeekjabaaaaIdE
import Derived.Deep.RegionWith
import Derived.Deep.RegionHeld3
import Derived.Deep.QuietTactic
import Derived.BigQuiet
import Derived.StillTailTactics
import Derived.Deep.RegionLaw
namespace Go.Proofs.Ytoeaoeekjabaaaa
open Go.RowKit Go.Proofs.YtoeaoeekjabaaaaW.PrintWords
set_option linter.unusedVariables false
set_option linter.unusedSimpArgs false

theorem pinfo_th : (Try.prog.info? 37).map (fun i => (i.zero, i.size, i.bytes)) = some (some (.pointer none), 1, 8) := by kernel_rfl
theorem pinfo_ct : (Try.prog.info? 44).map (fun i => (i.zero, i.size, i.bytes)) = some (some (.pointer none), 1, 8) := by kernel_rfl
theorem results_tmp4 {P : Program} {fn : Func} {t u v x : Tmp} (h : fn.results = #[.tmp t, .tmp u, .tmp v, .tmp x]) (tmps : Array Value) (w : World) :
    (results fn tmps).run P w = .ok (.tuple #[tmps.getD t undef, tmps.getD u undef, tmps.getD v undef, tmps.getD x undef]) w := by simp [results, h]
theorem cell_bit (w : World) (q : Bool) : Calls Try.prog 21 #[.bool q] w fun e w' => e = .returned (.int .i64 (if q then 1 else 0)) ∧ w = w' := by
  cases q <;> go_enter Try.func21, Try.ntmps21 <;> go_wp2 <;> go_ret <;> exact ⟨rfl, rfl⟩
/-- What Ids answers. -/
def IdsPost (w : World) (xs : List Int) (t : Int) (l : List CA) (e : Ending) (w' : World) : Prop :=
  Below w.heap.size w w' ∧ ((¬ errI xs t l = 0 ∧ e = .returned (.tuple #[.slice none 0 0, .slice none 0 0, .slice none 0 0, .int .i64 (errI xs t l)])) ∨
    (errI xs t l = 0 ∧ ∃ v1 v2 v3, e = .returned (.tuple #[v1, v2, v3, .int .i64 0]) ∧ w'.ownsRow w.heap.size TII 1 v1 l.length ((runI xs l).1.map (Value.int .i64)) ∧
      w'.ownsRow w.heap.size TII 1 v2 xs.length ((runI xs l).2.map (Value.int .i64)) ∧ w'.ownsRow w.heap.size TII 1 v3 l.length ((kindsI l).map (Value.int .i64))))

set_option maxHeartbeats 40000000 in
set_option maxRecDepth 100000 in
theorem cell_ids (w : World) (A : Option Addr) (c : Nat) (xs : List Int) (hx : Row1 w A xs.length (xs.map (Value.int .i64))) (hxl : xs.length ≤ 1000000000000000) (t : Int) (A' : Option Addr) (c' : Nat) (l : List CA) (hl : CAsAt w A' l) (hll : l.length ≤ 1000000000000000) :
    Calls Try.prog 4 #[.slice A xs.length c, .int .i64 t, .slice A' l.length c'] w (IdsPost w xs t l) := by
  refine calls_hide fun Q HQ => ?_
  have HQ' := Lib.hid HQ
  have HX := Lib.hid hx
  have HL := Lib.hid hl
  have hal := (Below.refl w.heap.size w).alloc (Nat.le_refl _) (.cells [.int .i64 t].toArray TII)
  have HB0 := Lib.hid hal
  have hb0 := Blk.new w TII [.int .i64 t]
  have ht0 := hb0.cell 0
  simp only [List.getElem?_cons_zero] at ht0
  have HEI := Lib.hid (show errI xs t l = if 64 < xs.length ∨ 64 < t ∨ 1000 < l.length then 2 else if t < 0 ∨ ∃ n ∈ xs, ¬ rightI t n then 1 else errL xs.length t l from rfl)
  have hmf : ∀ (fn : Fn) (first cap : Array Value) (w : World), (Instr.makeFunc fn first cap).run Try.prog w = .ok (.func fn first cap) w := fun _ _ _ _ => rfl
  clear HQ hx hl hal
  by_cases b1 : 64 < xs.length
  · have HE := Lib.hid (show errI xs t l = 2 by rw [HEI.out, if_pos (.inl b1)])
    clear hb0
    go_enter Try.func4, Try.ntmps4
    go_wp2
    (try simp only [Exit.inBlock, Exit.then])
    refine bodyPost_ret (results_tmp4 rfl _ _) rfl ?_
    exact HQ'.out _ _ ⟨HB0.out, .inl ⟨by rw [HE.out]; decide, by rw [HE.out]; rfl⟩⟩
  · by_cases b2 : 64 < t
    · have HE := Lib.hid (show errI xs t l = 2 by rw [HEI.out, if_pos (.inr (.inl b2))])
      clear hb0
      go_enter Try.func4, Try.ntmps4
      go_wp2
      (try simp only [Exit.inBlock, Exit.then])
      refine bodyPost_ret (results_tmp4 rfl _ _) rfl ?_
      exact HQ'.out _ _ ⟨HB0.out, .inl ⟨by rw [HE.out]; decide, by rw [HE.out]; rfl⟩⟩
    · by_cases b3 : 1000 < l.length
      · have HE := Lib.hid (show errI xs t l = 2 by rw [HEI.out, if_pos (.inr (.inr b3))])
        clear hb0
        go_enter Try.func4, Try.ntmps4
        go_wp2
        (try simp only [Exit.inBlock, Exit.then])
        refine bodyPost_ret (results_tmp4 rfl _ _) rfl ?_
        exact HQ'.out _ _ ⟨HB0.out, .inl ⟨by rw [HE.out]; decide, by rw [HE.out]; rfl⟩⟩
      · have HE0 := Lib.hid (show errI xs t l = if t < 0 ∨ ∃ n ∈ xs, ¬ rightI t n then 1 else errL xs.length t l by rw [HEI.out, if_neg (by omega)])
        obtain ⟨w1, hw1⟩ : ∃ w1, w1 = w.alloc (.cells [.int .i64 t].toArray TII) := ⟨_, rfl⟩
        have hsz : w1.heap.size = w.heap.size + 1 := by rw [hw1]; simp
        have hb2 := Blk.new w1 32 [.nilFunc]
        rw [hsz] at hb2
        have hc2 := hb2.cell 0
        have hf2 := hb2.free ⟨w.heap.size + 1, 0, none⟩ rfl
        simp only [List.getElem?_cons_zero] at hc2
        have HBR := Lib.hid (show BoxR (w1.alloc (.cells [fRight w.heap.size].toArray 32)) w.heap.size (w.heap.size + 1) t from
          ⟨((hw1 ▸ hb0 : Blk w1 w.heap.size TII [.int .i64 t]).alloc _).cell 0, by have h9 := (Blk.new w1 32 [fRight w.heap.size]).cell 0; rw [hsz] at h9; exact h9⟩)
        have HB1 := Lib.hid (show Below w.heap.size w (w1.alloc (.cells [fRight w.heap.size].toArray 32)) from (hw1 ▸ HB0.out : Below w.heap.size w w1).alloc (by omega) _)
        have ht1 := HBR.out.t
        rw [hw1] at hc2 hf2 HBR HB1 ht1
        have hst : (store ⟨w.heap.size + 1, 0, none⟩ (fRight w.heap.size)).run Try.prog ((w.alloc (.cells [.int .i64 t].toArray TII)).alloc (.cells [.nilFunc].toArray 32)) = .ok () (((w.alloc (.cells [.int .i64 t].toArray TII)).alloc (.cells [.nilFunc].toArray 32)).setCell ⟨w.heap.size + 1, 0, none⟩ (fRight w.heap.size)) := by
          rw [run_store Try.prog _ _ (fRight w.heap.size) .plain rfl, hc2, hf2]
          rfl
        clear hb0 hb2 HEI hsz hw1
        by_cases b4 : t < 0
        · have HE := Lib.hid (show errI xs t l = 1 by rw [HE0.out, if_pos (.inl b4)])
          go_enter Try.func4, Try.ntmps4
          go_wp2
          (try simp only [Exit.inBlock, Exit.then])
          refine bodyPost_ret (results_tmp4 rfl _ _) rfl ?_
          exact HQ'.out _ _ ⟨HB1.out, .inl ⟨by rw [HE.out]; decide, by rw [HE.out]; rfl⟩⟩
        · have HC := Lib.hid (ids_contains _ A c xs (HX.out.below HB1.out) (by omega) w.heap.size (w.heap.size + 1) t HBR.out)
          have HK := Lib.hid (cell_check _ xs.length A' c' l (HL.out.below HB1.out) (by omega) w.heap.size (w.heap.size + 1) t HBR.out)
          by_cases b5 : ∃ n ∈ xs, ¬ rightI t n
          · have HE := Lib.hid (show errI xs t l = 1 by rw [HE0.out, if_pos (.inr b5)])
            rw [decide_eq_true b5] at HC
            clear b5 HK
            go_enter Try.func4, Try.ntmps4
            go_wp2_with fail
            refine HC.out.mono ?_
            rintro e w1 ⟨rfl, rfl⟩
            go_wp2
            (try simp only [Exit.inBlock, Exit.then])
            refine bodyPost_ret (results_tmp4 rfl _ _) rfl ?_
            exact HQ'.out _ _ ⟨HB1.out, .inl ⟨by rw [HE.out]; decide, by rw [HE.out]; rfl⟩⟩
          · have HE := Lib.hid (show errI xs t l = errL xs.length t l by rw [HE0.out, if_neg (fun h => by rcases h with h | h; exact b4 h; exact b5 h)])
            have HOK := Lib.hid (show OkC t xs from fun n hn => Decidable.not_not.1 fun h => b5 ⟨n, hn, h⟩)
            rw [decide_eq_false b5] at HC
            clear b5
            go_enter Try.func4, Try.ntmps4
            go_wp2_with fail
            refine HC.out.mono ?_
            rintro e w1 ⟨rfl, rfl⟩
            go_wp2_with fail
            refine HK.out.mono ?_
            rintro e w3 ⟨rfl, hb3⟩
            have HB3 := Lib.hid (HB1.out.trans (hb3.mono HB1.out.size))
            have ht3 := (HBR.out.below hb3).t
            clear hb3 HC HK HBR ht0 ht1 HE0
            by_cases b6 : errL xs.length t l = 0
            · have HZ := Lib.hid b6
              rw [b6]
              clear b6
              obtain ⟨T, hT⟩ : ∃ T : Nat, t = T := ⟨t.toNat, by omega⟩
              subst hT
              have hT64 : T ≤ 64 := by omega
              have hmk := run_make_nils (P := Try.prog) (t := 36) Try.underlying36 pinfo_th rfl T (by omega) (by omega) w3
              have HM1 := Lib.hid (show Mk1 w3 w3.heap.size (w3.heap.size + 1) T [] ((w3.alloc (.cells (nils T) TPT)).alloc (.cells [.slice (some ⟨w3.heap.size, 0, none⟩) T T].toArray TAT)) from
                ⟨by simpa using (nils_blk w3 TPT T).alloc _, (fun b hb => nomatch hb), List.nodup_nil, by have h9 := Blk.new (w3.alloc (.cells (nils T) TPT)) TAT [.slice (some ⟨w3.heap.size, 0, none⟩) T T]; simpa using h9,
                  (Below.refl _ _).alloc (Nat.le_refl _) _ |>.alloc (by simp) _, Nat.le_refl _⟩)
              have hbx : _ = some (Value.slice (some ⟨w3.heap.size, 0, none⟩) T T) := HM1.out.box.cell 0
              go_wp2_with fail
              go_loopw [61] (fun k wr => ∃ j : Nat, j ≤ T ∧ k = .int .i64 j ∧ ∃ bs : List Nat, bs.length = j ∧ Mk1 w3 w3.heap.size (w3.heap.size + 1) T bs wr) (fun k _ => T - (intOf k).toNat)
              case atStart => exact ⟨0, Nat.zero_le _, rfl, [], rfl, HM1.out⟩
              case round =>
                clear HM1 hbx hmk ht3
                obtain ⟨j, hj, rfl, bs, hbl, hm⟩ := hrel
                have HM := Lib.hid hm
                clear hm
                subst hbl
                have hbx : _ = some (Value.slice (some ⟨w3.heap.size, 0, none⟩) T T) := HM.out.box.cell 0
                by_cases hlt : bs.length < T
                · have hcg := ((HM.out.all.alloc (.cells [.int .i64 0].toArray TTH)).cell bs.length)
                  rw [List.getElem?_append_right (by simp), List.getElem?_replicate] at hcg
                  simp only [List.length_map, Nat.sub_self, show 0 < T - bs.length by omega, if_true] at hcg
                  have hfg := (HM.out.all.alloc (.cells [.int .i64 0].toArray TTH)).free ⟨w3.heap.size, bs.length, none⟩ rfl
                  have HN := Lib.hid (HM.out.next hlt)
                  go_wp2
                  go_roundw
                  case rel => exact ⟨bs.length + 1, by omega, by go_num, bs ++ [wr.heap.size], by simp, HN.out⟩
                  case measure => simp [intOf]; omega
                · have hbT : bs.length = T := by omega
                  subst hbT
                  obtain ⟨w5, hw5⟩ : ∃ x, x = wr := ⟨_, rfl⟩
                  have HALL := Lib.hid (show Blk w5 w3.heap.size TPT (bs.map fun b => pv (some b)) by rw [hw5]; simpa using HM.out.all)
                  have HBX := Lib.hid (show Blk w5 (w3.heap.size + 1) TAT [.slice (some ⟨w3.heap.size, 0, none⟩) bs.length bs.length] by rw [hw5]; exact HM.out.box)
                  have HTH := Lib.hid (show ∀ b ∈ bs, Blk w5 b TTH [.int .i64 0] by rw [hw5]; exact HM.out.th)
                  have HND := Lib.hid HM.out.nd
                  have HB5 := Lib.hid (show Below w.heap.size w w5 by rw [hw5]; exact HB3.out.trans (HM.out.below.mono HB3.out.size))
                  have hmk := run_make_nils (P := Try.prog) (t := 43) Try.underlying43 pinfo_ct rfl xs.length (by omega) (by omega) wr
                  have HM2 := Lib.hid (show Mk2 w5 w5.heap.size bs xs [] (w5.alloc (.cells (nils xs.length) TPC)) from
                    ⟨by simpa using nils_blk w5 TPC xs.length, fun i c n h => by simp at h, List.nodup_nil, (fun c h => nomatch h), (Below.refl _ _).alloc (Nat.le_refl _) _, Nat.le_refl _⟩)
                  rw [← hw5] at hmk
                  clear HM hlt hj HB3
                  rw [← hw5] at *
                  clear hw5
                  go_wp2_with fail
                  go_loopw [77] (fun k wz => ∃ j : Nat, j ≤ xs.length ∧ k = .int .i64 j ∧ ∃ cs : List Nat, cs.length = j ∧ Mk2 w5 w5.heap.size bs xs cs wz) (fun k _ => xs.length - (intOf k).toNat)
                  case atStart => exact ⟨0, Nat.zero_le _, rfl, [], rfl, HM2.out⟩
                  case round =>
                    clear HM2 hmk hbx
                    obtain ⟨j, hj, rfl, cs, hcl, hm⟩ := hrel
                    have HM := Lib.hid hm
                    clear hm
                    subst hcl
                    by_cases hlt : cs.length < xs.length
                    · obtain ⟨n, hn⟩ : ∃ n, xs[cs.length]? = some n := ⟨_, List.getElem?_eq_getElem hlt⟩
                      have HF5 := Lib.hid (Fr.of_below0 (S := fun _ => False) HM.out.below)
                      obtain ⟨ad, rfl, hc0⟩ := HX.out.at_ (j := cs.length) (u := .int .i64 n) (by rw [List.getElem?_map, hn]; rfl)
                      have hc : _ = some (Value.int .i64 n) := pw_cell_below (HB5.out.trans (HM.out.below.mono HB5.out.size)) hc0
                      have HN := Lib.hid hn
                      have HOF := Lib.hid (ids_of wr (w3.heap.size + 1) w3.heap.size bs n ((HF5.out.blk HBX.out id).cell 0) (HF5.out.blk HALL.out id) (HOK.out n (List.mem_of_getElem? hn)))
                      have HNW := Lib.hid (cell_new_cellthing wr (thOf bs n) (thOf_ptr (fun b hb => HF5.out.blk (HTH.out b hb) id) n))
                      clear hc0 hn
                      go_wp2_with fail
                      refine HOF.out.mono ?_
                      rintro e w9 ⟨rfl, rfl⟩
                      go_wp2_with fail
                      refine HNW.out.mono ?_
                      rintro e w9 ⟨b, rfl, hle, hb9, hbb⟩
                      have hr9 := (Fr.of_below0 (S := fun _ => False) hb9).blk HM.out.row id
                      have hcg := hr9.cell cs.length
                      rw [List.getElem?_append_right (by simp), List.getElem?_replicate] at hcg
                      simp only [List.length_map, Nat.sub_self, show 0 < xs.length - cs.length by omega, if_true] at hcg
                      have hfg := hr9.free ⟨w5.heap.size, cs.length, none⟩ rfl
                      have HN2 := Lib.hid (HM.out.next hlt HN.out hb9 hle hbb)
                      clear hr9 hle hb9 hbb HOF HNW hc
                      go_wp2
                      go_roundw
                      case rel => exact ⟨cs.length + 1, by omega, by go_num, cs ++ [b], by simp, HN2.out⟩
                      case measure => simp [intOf]; omega
                    · have hcx : cs.length = xs.length := by omega
                      have HF5 := Lib.hid (Fr.of_below0 (S := fun _ => False) HM.out.below)
                      have HROW := Lib.hid (show Blk wr w5.heap.size TPC (cs.map fun c => pv (some c)) by have h9 := HM.out.row; rw [hcx] at h9; simpa using h9)
                      have HB7 := Lib.hid (HB5.out.trans (HM.out.below.mono HB5.out.size))
                      go_wp2_with fail
                      refine (tape_new wr).mono ?_
                      rintro e w8 ⟨tp, rfl, htp, hb8⟩
                      have HF8 := Lib.hid (Fr.of_below0 (S := fun _ => False) hb8)
                      have HIM := Lib.hid (show IdM w (w3.heap.size + 1) w3.heap.size w5.heap.size tp bs cs xs [] [] (.slice none 0 0) w8 from
                        ⟨HF8.out.blk (HF5.out.blk HBX.out id) id, HF8.out.blk (HF5.out.blk HALL.out id) id, fun b hb => HF8.out.blk (HF5.out.blk (HTH.out b hb) id) id, HND.out, HF8.out.blk HROW.out id, hcx, fun i c n h1 h2 => HF8.out.blk (HM.out.cell i c n h1 h2) id, HM.out.nd,
                          fun c hc => Nat.le_trans HB5.out.size (HM.out.lo c hc).1, HOK.out, htp.lower HB7.out.size, World.ownsRow_nil _ _ _ _, fun k hk => by simp [Value.ownBlock] at hk, HB7.out.trans (hb8.mono HB7.out.size)⟩)
                      clear HM HF5 HROW HB7 htp hb8 HF8 HBX HALL HTH HND HB5
                      go_wp2_with fail
                      go_loopw [21, 93] (fun o k wz => ∃ j : Nat, j ≤ l.length ∧ k = .int .i64 j ∧ IdM w (w3.heap.size + 1) w3.heap.size w5.heap.size tp bs cs (runI xs (l.take j)).2 (kindsI (l.take j)) (runI xs (l.take j)).1 o wz) (fun _ k _ => l.length - (intOf k).toNat)
                      case atStart => exact ⟨0, Nat.zero_le _, rfl, by simpa [kindsI, runI] using HIM.out⟩
                      case round =>
                        clear HIM
                        obtain ⟨j, hj, rfl, hm⟩ := hrel
                        have HM := Lib.hid hm
                        clear hm
                        by_cases hltj : j < l.length
                        · obtain ⟨x, hx⟩ : ∃ x, l[j]? = some x := ⟨_, List.getElem?_eq_getElem hltj⟩
                          obtain ⟨hk, h0, h1, hf⟩ := errX_zero (errL_zero HZ.out x (List.mem_of_getElem? hx))
                          obtain ⟨d, ks, ans, hdl, hkl, hal, HMd, HNX⟩ : ∃ (d ks ans : List Int), d.length = xs.length ∧ ks.length ≤ 1000 ∧ ans.length ≤ 1000 ∧ Hid (IdM w (w3.heap.size + 1) w3.heap.size w5.heap.size tp bs cs d ks ans u21 wr) ∧
                              Hid (∀ o' w', IdM w (w3.heap.size + 1) w3.heap.size w5.heap.size tp bs cs (stepI d x).2 (ks ++ [x.k]) (ans ++ [(stepI d x).1]) o' w' → IdM w (w3.heap.size + 1) w3.heap.size w5.heap.size tp bs cs (runI xs (l.take (j + 1))).2 (kindsI (l.take (j + 1))) (runI xs (l.take (j + 1))).1 o' w') :=
                            ⟨_, _, _, (runI_length _ _).2, by simp [kindsI]; omega, by rw [(runI_length _ _).1]; simp; omega, Lib.hid HM.out, Lib.hid (fun o' w' h => by
                              rw [runI_take xs l j x hx, show kindsI (l.take (j + 1)) = kindsI (l.take j) ++ [x.k] by
                                obtain ⟨q1, q2⟩ := List.getElem?_eq_some_iff.1 hx
                                unfold kindsI; rw [List.take_succ_eq_append_getElem q1, q2, List.map_append]; rfl]
                              exact h)⟩
                          clear HM
                          obtain ⟨b0, o0, rfl, c0, c1, c2, c3⟩ := (HL.out.below HMd.out.below).at_ hx
                          obtain ⟨k, at_, a, b⟩ := x
                          simp only at hk h0 h1 hf c0 c1 c2 c3
                          obtain ⟨i, rfl⟩ : ∃ i : Nat, at_ = i := ⟨at_.toNat, by omega⟩
                          clear h0 hx
                          have hal9 := (Below.refl wr.heap.size wr).alloc (Nat.le_refl _) (.cells (CA.cells ⟨k, (i : Int), a, b⟩).toArray 28)
                          have HMa := Lib.hid (HMd.out.more hal9)
                          have hbk := Blk.new wr 28 (CA.cells ⟨k, (i : Int), a, b⟩)
                          have h0 := hbk.cell 0
                          have h2 := hbk.cell 1
                          have h3 := hbk.cell 2
                          have h4 := hbk.cell 3
                          simp only [List.getElem?_cons_zero, List.getElem?_cons_succ] at h0 h2 h3 h4
                          have HI := Lib.hid (show i < d.length by omega)
                          obtain ⟨cc, n, hcc, hdn, hbc, hrn⟩ := HMa.out.at_ HI.out
                          have hgd : d[i]?.getD 0 = n := by rw [hdn]; rfl
                          have HDN := Lib.hid hdn
                          have hcr : (wr.alloc (.cells (CA.cells ⟨k, (i : Int), a, b⟩).toArray 28)).cell? ⟨w5.heap.size, i, none⟩ = some (.pointer (some ⟨cc, 0, none⟩)) := by rw [HMa.out.row.cell, List.getElem?_map, hcc]; rfl
                          have HCC := Lib.hid hcc
                          have HBC := Lib.hid hbc
                          have HRN := Lib.hid hrn
                          clear hcc hdn hbc hrn hal9 hbk HMd
                          rcases hk with rfl | rfl | rfl | rfl
                          · have HST := Lib.hid (show stepI d ⟨1, (i : Int), a, b⟩ = (n, d) by unfold stepI; simp [hgd])
                            have HLD := Lib.hid (cell_load_cellthing w.heap.size (some tp) ks cc 0 TCT [pv (thOf bs n)] _ HMa.out.tape.gate HMa.out.below.size (by omega) HBC.out (by decide) (by decide) (thOf bs n) rfl (thOf_ptr HMa.out.th n))
                            clear hgd hf
                            go_wp2_with fail
                            refine HLD.out.mono ?_
                            rintro e w9 ⟨rfl, hs9⟩
                            have HM9 := Lib.hid (HMa.out.same HI.out hs9)
                            clear hs9 h0 h2 h3 h4 hcr HMa HLD
                            have HNU := Lib.hid (ids_number w9 (w3.heap.size + 1) w3.heap.size bs n (HM9.out.box.cell 0) HM9.out.all (fun b hb => ⟨_, _, HM9.out.th b hb⟩) HM9.out.ndb (by omega) HRN.out)
                            go_wp2_with fail
                            refine HNU.out.mono ?_
                            rintro e w10 ⟨rfl, rfl⟩
                            go_wp2_with (at_builtin; refine print_append_cells (w0 := w) (W := w9) w.heap.size rfl _ _ 22 TII (.int .i64 0) 1 8 rfl Try.underlying22 tinfo_int rfl (by decide) (by decide) u21 ans.length _ [.int .i64 n] rfl rfl rfl (by simp [Value.oneCell']) HM9.out.out HM9.out.below HM9.out.below.size (by omega) ?_)
                            intro v9 w11 hown hb11 hg hat
                            have HM11 := Lib.hid (HM9.out.push hg hown hat)
                            clear hown hb11 hg hat
                            go_wp2
                            go_roundw
                            case rel => exact ⟨j + 1, by omega, by go_num, HNX.out _ _ (by rw [HST.out]; exact HM11.out)⟩
                            case measure => simp [intOf]; omega
                          · have HST := Lib.hid (show stepI d ⟨2, (i : Int), a, b⟩ = (0, d.set i a) by unfold stepI; simp)
                            have ha : rightI bs.length a := by rcases hf with h | h; exact absurd h (show ¬ (2 : Int) = 1 by decide); exact h.1
                            have HOF := Lib.hid (ids_of _ (w3.heap.size + 1) w3.heap.size bs a (HMa.out.box.cell 0) HMa.out.all ha)
                            have HSO := Lib.hid (cell_store_cellthing w.heap.size (some tp) ks cc 0 TCT [pv (thOf bs n)] _ HMa.out.tape.gate HMa.out.below.size (by omega) HBC.out (by decide) (by decide) (thOf bs a) _ rfl (thOf_ptr HMa.out.th a))
                            have HA := Lib.hid ha
                            clear hgd hf ha
                            go_wp2_with fail
                            refine HOF.out.mono ?_
                            rintro e w9 ⟨rfl, rfl⟩
                            go_wp2_with fail
                            refine HSO.out.mono ?_
                            rintro e w9 ⟨rfl, hs9, hb9⟩
                            have HM9 := Lib.hid (HMa.out.act HI.out HCC.out HA.out hs9 hb9)
                            clear hs9 hb9 h0 h2 h3 h4 hcr HMa HOF HSO
                            go_wp2_with (at_builtin; refine print_append_cells (w0 := w) (W := w9) w.heap.size rfl _ _ 22 TII (.int .i64 0) 1 8 rfl Try.underlying22 tinfo_int rfl (by decide) (by decide) u21 ans.length _ [.int .i64 0] rfl rfl rfl (by simp [Value.oneCell']) HM9.out.out HM9.out.below HM9.out.below.size (by omega) ?_)
                            intro v9 w11 hown hb11 hg hat
                            have HM11 := Lib.hid (HM9.out.push hg hown hat)
                            clear hown hb11 hg hat
                            go_wp2
                            go_roundw
                            case rel => exact ⟨j + 1, by omega, by go_num, HNX.out _ _ (by rw [HST.out]; exact HM11.out)⟩
                            case measure => simp [intOf]; omega
                          · have HST := Lib.hid (show stepI d ⟨4, (i : Int), a, b⟩ = (n, d.set i a) by unfold stepI; simp [hgd])
                            have ha : rightI bs.length a := by rcases hf with h | h; exact absurd h (show ¬ (4 : Int) = 1 by decide); exact h.1
                            have HOF := Lib.hid (ids_of _ (w3.heap.size + 1) w3.heap.size bs a (HMa.out.box.cell 0) HMa.out.all ha)
                            have HSO := Lib.hid (cell_swap_cellthing w.heap.size (some tp) ks cc 0 TCT [pv (thOf bs n)] _ HMa.out.tape.gate HMa.out.below.size (by omega) HBC.out (by decide) (by decide) (thOf bs n) (thOf bs a) rfl (thOf_ptr HMa.out.th n) (thOf_ptr HMa.out.th a))
                            have HA := Lib.hid ha
                            clear hgd hf ha
                            go_wp2_with fail
                            refine HOF.out.mono ?_
                            rintro e w9 ⟨rfl, rfl⟩
                            go_wp2_with fail
                            refine HSO.out.mono ?_
                            rintro e w9 ⟨rfl, hs9, hb9⟩
                            have HM9 := Lib.hid (HMa.out.act HI.out HCC.out HA.out hs9 hb9)
                            clear hs9 hb9 h0 h2 h3 h4 hcr HMa HOF HSO
                            have HNU := Lib.hid (ids_number w9 (w3.heap.size + 1) w3.heap.size bs n (HM9.out.box.cell 0) HM9.out.all (fun b hb => ⟨_, _, HM9.out.th b hb⟩) HM9.out.ndb (by omega) HRN.out)
                            go_wp2_with fail
                            refine HNU.out.mono ?_
                            rintro e w10 ⟨rfl, rfl⟩
                            go_wp2_with (at_builtin; refine print_append_cells (w0 := w) (W := w9) w.heap.size rfl _ _ 22 TII (.int .i64 0) 1 8 rfl Try.underlying22 tinfo_int rfl (by decide) (by decide) u21 ans.length _ [.int .i64 n] rfl rfl rfl (by simp [Value.oneCell']) HM9.out.out HM9.out.below HM9.out.below.size (by omega) ?_)
                            intro v9 w11 hown hb11 hg hat
                            have HM11 := Lib.hid (HM9.out.push hg hown hat)
                            clear hown hb11 hg hat
                            go_wp2
                            go_roundw
                            case rel => exact ⟨j + 1, by omega, by go_num, HNX.out _ _ (by rw [HST.out]; exact HM11.out)⟩
                            case measure => simp [intOf]; omega
                          · have ha : rightI bs.length a := by rcases hf with h | h; exact absurd h (show ¬ (5 : Int) = 1 by decide); exact h.1
                            have hbr : rightI bs.length b := by
                              rcases hf with h | h
                              · exact absurd h (show ¬ (5 : Int) = 1 by decide)
                              · rcases h.2 with h | h
                                · exact absurd (rfl : (5 : Int) = 5) h
                                · exact h
                            have HA := Lib.hid ha
                            have HBR := Lib.hid hbr
                            have HMl := Lib.hid (show IdM w (w3.heap.size + 1) w3.heap.size w5.heap.size tp bs cs d ks ans u21 (wr.alloc (Obj.cells #[.int .i64 5, .int .i64 (i : Int), .int .i64 a, .int .i64 b] 28)) from HMa.out)
                            have h0' : (wr.alloc (Obj.cells #[.int .i64 5, .int .i64 (i : Int), .int .i64 a, .int .i64 b] 28)).cell? ⟨wr.heap.size, 0, none⟩ = some (.int .i64 5) := h0
                            have h2' : (wr.alloc (Obj.cells #[.int .i64 5, .int .i64 (i : Int), .int .i64 a, .int .i64 b] 28)).cell? ⟨wr.heap.size, 1, none⟩ = some (.int .i64 (i : Int)) := h2
                            have h3' : (wr.alloc (Obj.cells #[.int .i64 5, .int .i64 (i : Int), .int .i64 a, .int .i64 b] 28)).cell? ⟨wr.heap.size, 2, none⟩ = some (.int .i64 a) := h3
                            have h4' : (wr.alloc (Obj.cells #[.int .i64 5, .int .i64 (i : Int), .int .i64 a, .int .i64 b] 28)).cell? ⟨wr.heap.size, 3, none⟩ = some (.int .i64 b) := h4
                            have hcr' : (wr.alloc (Obj.cells #[.int .i64 5, .int .i64 (i : Int), .int .i64 a, .int .i64 b] 28)).cell? ⟨w5.heap.size, i, none⟩ = some (.pointer (some ⟨cc, 0, none⟩)) := hcr
                            clear hgd hf ha hbr HMa h0 h2 h3 h4 hcr HBC
                            go_wp2_with fail
                            clear c0 c1 c2 c3
                            generalize wr.alloc (Obj.cells #[.int .i64 5, .int .i64 (i : Int), .int .i64 a, .int .i64 b] 28) = wa at *
                            have hwd := HMl.out.more (Below.refl _ _).drew
                            have HMb := Lib.hid hwd
                            have HOA := Lib.hid (ids_of wa.drew (w3.heap.size + 1) w3.heap.size bs a (hwd.box.cell 0) hwd.all HA.out)
                            have HOB := Lib.hid (ids_of wa.drew (w3.heap.size + 1) w3.heap.size bs b (hwd.box.cell 0) hwd.all HBR.out)
                            clear hwd
                            obtain ⟨cc', n', hcc', hdn', hbc', _⟩ := HMb.out.at_ HI.out
                            rw [HCC.out] at hcc'
                            rw [HDN.out] at hdn'
                            cases hcc'
                            cases hdn'
                            by_cases hna : n = a
                            · subst hna
                              have HST := Lib.hid (show stepI d ⟨5, (i : Int), n, b⟩ = (1, d.set i b) by unfold stepI; simp [HDN.out])
                              have HCA := Lib.hid (show Calls Try.prog 22 #[.pointer (some ⟨cc, 0, none⟩), gvI (some tp), pv (thOf bs n), pv (thOf bs b)] wa.drew (fun e w' => e = .returned (.bool true) ∧ StepI w.heap.size (some tp) wa.drew w' (ks ++ [5]) (fun k => k = cc) ∧ Blk w' cc TCT [pv (thOf bs b)]) from
                                (cell_cas_cellthing w.heap.size (some tp) ks cc 0 TCT [pv (thOf bs n)] wa.drew HMb.out.tape.gate HMb.out.below.size (by omega) hbc' (by decide) (by decide) (thOf bs n) (thOf bs n) (thOf bs b) rfl (thOf_ptr HMb.out.th n) (thOf_ptr HMb.out.th n) (thOf_ptr HMb.out.th b)).mono fun e w' h => ⟨by rw [h.1, decide_eq_true rfl], h.2.1, by have h3 := h.2.2; rw [if_pos rfl] at h3; exact h3⟩)
                              clear hbc' HMl
                              go_region_law (first
                                | (go_simp; go_at_call 13; (first | refine HOA.out.mono ?_ | refine HOB.out.mono ?_); rintro e w' ⟨rfl, rfl⟩)
                                | (go_simp; go_at_call 22; refine HCA.out.mono ?_; rintro e w9 ⟨rfl, hs9, hb9⟩; have HM9 := Lib.hid (HMb.out.act HI.out HCC.out HBR.out hs9 hb9); clear hs9 hb9)
                                | (go_simp; go_at_call 21; refine (cell_bit _ true).mono ?_; rintro e w' ⟨rfl, rfl⟩)
                                | (refine step_append_cells (W := w9) w.heap.size (by rfl) _ _ 22 TII (.int .i64 0) 1 8 rfl Try.underlying22 tinfo_int rfl (by decide) (by decide) u21 ans.length _ [.int .i64 1] rfl rfl rfl (by simp [Value.oneCell']) HM9.out.out HM9.out.below HM9.out.below.size (by omega) ?_
                                   intro v9 w11 hown hb11 hg hat
                                   have HM11 := Lib.hid (HM9.out.push hg hown hat)
                                   clear hown hb11 hg hat))
                              all_goals
                                go_wp2
                                go_roundw
                                case rel => exact ⟨j + 1, by omega, by go_num, HNX.out _ _ (by rw [HST.out]; exact HM11.out)⟩
                                case measure => simp [intOf]; omega
                            · have hne : ¬ thOf bs n = thOf bs a := fun h => hna ((thOf_inj HMb.out.ndb HRN.out HA.out).1 h)
                              have HST := Lib.hid (show stepI d ⟨5, (i : Int), a, b⟩ = (0, d) by unfold stepI; simp [HDN.out, hna])
                              have HCA := Lib.hid (show Calls Try.prog 22 #[.pointer (some ⟨cc, 0, none⟩), gvI (some tp), pv (thOf bs a), pv (thOf bs b)] wa.drew (fun e w' => e = .returned (.bool false) ∧ StepI w.heap.size (some tp) wa.drew w' (ks ++ [5]) (fun k => k = cc) ∧ Blk w' cc TCT [pv (thOf bs n)]) from
                                (cell_cas_cellthing w.heap.size (some tp) ks cc 0 TCT [pv (thOf bs n)] wa.drew HMb.out.tape.gate HMb.out.below.size (by omega) hbc' (by decide) (by decide) (thOf bs n) (thOf bs a) (thOf bs b) rfl (thOf_ptr HMb.out.th n) (thOf_ptr HMb.out.th a) (thOf_ptr HMb.out.th b)).mono fun e w' h => ⟨by rw [h.1, decide_eq_false hne], h.2.1, by have h3 := h.2.2; rw [if_neg hne] at h3; exact h3⟩)
                              clear hbc' HMl
                              go_region_law (first
                                | (go_simp; go_at_call 13; (first | refine HOA.out.mono ?_ | refine HOB.out.mono ?_); rintro e w' ⟨rfl, rfl⟩)
                                | (go_simp; go_at_call 22; refine HCA.out.mono ?_; rintro e w9 ⟨rfl, hs9, hb9⟩; have HM9 := Lib.hid (show IdM w (w3.heap.size + 1) w3.heap.size w5.heap.size tp bs cs d (ks ++ [5]) ans u21 w9 from (by have h9 := HMb.out.act HI.out HCC.out HRN.out hs9 hb9; obtain ⟨q1, q2⟩ := List.getElem?_eq_some_iff.1 HDN.out; rwa [← q2, List.set_getElem_self] at h9)); clear hs9 hb9)
                                | (go_simp; go_at_call 21; refine (cell_bit _ false).mono ?_; rintro e w' ⟨rfl, rfl⟩)
                                | (refine step_append_cells (W := w9) w.heap.size (by rfl) _ _ 22 TII (.int .i64 0) 1 8 rfl Try.underlying22 tinfo_int rfl (by decide) (by decide) u21 ans.length _ [.int .i64 0] rfl rfl rfl (by simp [Value.oneCell']) HM9.out.out HM9.out.below HM9.out.below.size (by omega) ?_
                                   intro v9 w11 hown hb11 hg hat
                                   have HM11 := Lib.hid (HM9.out.push hg hown hat)
                                   clear hown hb11 hg hat))
                              all_goals
                                go_wp2
                                go_roundw
                                case rel => exact ⟨j + 1, by omega, by go_num, HNX.out _ _ (by rw [HST.out]; exact HM11.out)⟩
                                case measure => simp [intOf]; omega
                        · have hje : j = l.length := by omega
                          subst hje
                          rw [List.take_length] at HM
                          obtain ⟨w4, rfl⟩ : ∃ x : World, x = wr := ⟨_, rfl⟩
                          obtain ⟨d, ks, ans, hd, hk, ha, hdl, HM4⟩ : ∃ d ks ans, (runI xs l).2 = d ∧ kindsI l = ks ∧ (runI xs l).1 = ans ∧ d.length = xs.length ∧ Hid (IdM w (w3.heap.size + 1) w3.heap.size w5.heap.size tp bs cs d ks ans u21 w4) := ⟨_, _, _, rfl, rfl, rfl, (runI_length _ _).2, HM⟩
                          have HD := Lib.hid hd
                          have HKS := Lib.hid hk
                          have HAN := Lib.hid ha
                          clear HM hd hk ha
                          go_wp2_with fail
                          go_loopw [22, 164] (fun o k wz => ∃ j : Nat, j ≤ xs.length ∧ k = .int .i64 j ∧ Below w4.heap.size w4 wz ∧ wz.ownsRow w4.heap.size TII 1 o j ((d.take j).map (Value.int .i64))) (fun _ k _ => xs.length - (intOf k).toNat)
                          case atStart => exact ⟨0, Nat.zero_le _, rfl, Below.refl _ _, by simpa using World.ownsRow_nil _ _ _ _⟩
                          case round =>
                            obtain ⟨j, hj, rfl, hb, ho⟩ := hrel
                            have HB := Lib.hid hb
                            have HO := Lib.hid ho
                            have HMr := Lib.hid (HM4.out.more hb)
                            clear hb ho
                            by_cases hltj : j < xs.length
                            · obtain ⟨cc, n, hcc, hdn, hbc, hrn⟩ := HMr.out.at_ (i := j) (by omega)
                              have hcr : wr.cell? ⟨w5.heap.size, j, none⟩ = some (.pointer (some ⟨cc, 0, none⟩)) := by rw [HMr.out.row.cell, List.getElem?_map, hcc]; rfl
                              have HLD := Lib.hid (cell_loadn_cellthing cc 0 TCT [pv (thOf bs n)] wr hbc (thOf bs n) rfl (thOf_ptr HMr.out.th n))
                              have HNU := Lib.hid (ids_number wr (w3.heap.size + 1) w3.heap.size bs n (HMr.out.box.cell 0) HMr.out.all (fun b hb => ⟨_, _, HMr.out.th b hb⟩) HMr.out.ndb (by omega) hrn)
                              have HDN := Lib.hid hdn
                              clear hcc hdn hbc hrn
                              go_wp2_with fail
                              refine HLD.out.mono ?_
                              rintro e w9 ⟨rfl, rfl⟩
                              go_wp2_with fail
                              refine HNU.out.mono ?_
                              rintro e w9 ⟨rfl, rfl⟩
                              go_wp2_with (at_builtin; refine print_append_cells (w0 := w4) (W := wr) w4.heap.size rfl _ _ 22 TII (.int .i64 0) 1 8 rfl Try.underlying22 tinfo_int rfl (by decide) (by decide) u22 j _ [.int .i64 n] rfl rfl rfl (by simp [Value.oneCell']) HO.out HB.out HB.out.size (by omega) ?_)
                              intro v9 w11 hown hb11 hg hat
                              have HB11 := Lib.hid hb11
                              have HO11 := Lib.hid (show w11.ownsRow w4.heap.size TII 1 v9 (j + 1) ((d.take (j + 1)).map (Value.int .i64)) from by
                                obtain ⟨q1, q2⟩ := List.getElem?_eq_some_iff.1 HDN.out
                                rw [List.take_succ_eq_append_getElem q1, q2, List.map_append, List.map_take]
                                exact hown)
                              clear hown hb11 hg hat hcr
                              go_wp2
                              go_roundw
                              case rel => exact ⟨j + 1, by omega, by go_num, HB11.out, HO11.out⟩
                              case measure => simp [intOf]; omega
                            · have hje : j = xs.length := by omega
                              subst hje
                              have hkl : ks.length ≤ 1000 := by rw [← HKS.out]; simp [kindsI]; omega
                              go_wp2_with fail
                              refine (tape_kinds wr w.heap.size tp ks HMr.out.tape (by omega)).mono ?_
                              rintro e w9 ⟨v3, rfl, ho9, hb9⟩
                              have HFIN := Lib.hid (show Below w.heap.size w w9 ∧ w9.ownsRow w.heap.size TII 1 u21 l.length ((runI xs l).1.map (Value.int .i64)) ∧
                                  w9.ownsRow w.heap.size TII 1 u22 xs.length ((runI xs l).2.map (Value.int .i64)) ∧ w9.ownsRow w.heap.size TII 1 v3 l.length ((kindsI l).map (Value.int .i64)) from by
                                have h9 := HMr.out.more hb9
                                have hf9 := Fr.of_below0 (S := fun _ => False) hb9
                                refine ⟨h9.below, ?_, ?_, ?_⟩
                                · have h1 := h9.out
                                  rw [← HAN.out, (runI_length _ _).1] at h1
                                  exact h1
                                · have h2 := owns_fr HO.out hf9 (fun _ _ => id)
                                  rw [← hdl, List.take_length, ← HD.out] at h2
                                  rw [HD.out, hdl, ← HD.out] at h2
                                  exact own_weaken h2 HM4.out.below.size
                                · have h3 := ho9
                                  rw [← HKS.out] at h3
                                  rw [show (kindsI l).length = l.length by simp [kindsI]] at h3
                                  exact own_weaken h3 HMr.out.below.size)
                              clear ho9 hb9
                              go_wp2
                              (try simp only [Exit.inBlock, Exit.then])
                              refine bodyPost_ret (results_tmp4 rfl _ _) rfl ?_
                              exact HQ'.out _ _ ⟨HFIN.out.1, .inr ⟨by rw [HE.out]; exact HZ.out, u21, u22, v3, rfl, HFIN.out.2⟩⟩
            · have HZ := Lib.hid b6
              generalize errL xs.length t l = er at *
              go_wp2
              (try simp only [Exit.inBlock, Exit.then])
              refine bodyPost_ret (results_tmp4 rfl _ _) rfl ?_
              exact HQ'.out _ _ ⟨HB3.out, .inl ⟨by rw [HE.out]; exact HZ.out, by rw [HE.out]; rfl⟩⟩
end Go.Proofs.Ytoeaoeekjabaaaa
