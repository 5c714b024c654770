/- The gate is passed: nil, or a tape. -/
import Derived.Test.YtoeaoeekjabaaaaRows
import Derived.Test.YtoeaoeekjabaaaaBase
namespace Go.Proofs.Ytoeaoeekjabaaaa
open Go.RowKit Go.Proofs.YtoeaoeekjabaaaaW.PrintWords

theorem tinfo_int : (Try.prog.info? 3).map (fun i => (i.zero, i.size, i.bytes)) = some (some (.int .i64 0), 1, 8) := by kernel_rfl
theorem method_pass (a : Addr) (w : World) : (method 195 46 (.pointer (some a)) "Pass").run Try.prog w = .ok (50, .pointer (some a)) w := by kernel_rfl

abbrev TapeI := TapeAt 65 3
abbrev StepI := Step 65 3
abbrev GAtI := GAt 65 3
abbrev gvI := gv 46

/-- What a tape's note does to the memory. -/
theorem tape_note {B t : Nat} {ks : List Int} {k : Int} {w w1 : World} {v v' : Value} (hB : B ≤ t) (hb : Blk w t 65 [v]) (hne : v.ownBlock ≠ some t)
    (ho' : w1.ownsRow B 3 1 v' (ks.length + 1) (ks.map (Value.int .i64) ++ [.int .i64 k])) (hg : w.grownBy w1 v.ownBlock)
    (hnew : v'.ownBlock = v.ownBlock ∨ ∃ b, v'.ownBlock = some b ∧ w.heap.size ≤ b) :
    StepI B (some t) w (w1.setCell ⟨t, 0, none⟩ v') (ks ++ [k]) (fun _ => False) := by
  have hb1 : Blk w1 t 65 [v] := hb.same (hg.block t hb.lt (fun e => hne e.symm))
  have hv : w.cell? ⟨t, 0, none⟩ = some v := by rw [hb.cell 0]; rfl
  have hb2 : Blk (w1.setCell ⟨t, 0, none⟩ v') t 65 [v'] := hb1.set 0 v'
  have hnew' : ∀ b, v'.ownBlock = some b → v.ownBlock = some b ∨ w.heap.size ≤ b := by
    intro b hb
    rcases hnew with h | ⟨b', h, h'⟩
    · exact .inl (h ▸ hb)
    · rw [h] at hb; injection hb with hb; exact .inr (by omega)
  have hne' : v'.ownBlock ≠ some t := fun e => by
    rcases hnew' t e with h | h
    · exact hne h
    · have := hb.lt; omega
  refine ⟨fun t' ht' => ?_, ?_, fun i hi => ?_⟩
  · obtain rfl : t = t' := by simpa using ht'
    refine ⟨v', hB, hb2, ?_, hne'⟩
    have h3 := owns_fr ho' ((Fr.refl w1 (fun k => k = t)).setCell ⟨t, 0, none⟩ v' (fun _ => rfl)) (fun i hi hx => hne' (by rw [hi]; rw [hx]))
    simpa using h3
  · have h1 : Fr w w1 (fun k => GFoot w (some t) k ∨ False) :=
      (Fr.of_grown hg).mono (fun i _ hi => .inl ⟨t, rfl, .inr ⟨v, hv, hi.symm⟩⟩)
    exact h1.setCell ⟨t, 0, none⟩ v' (fun _ => .inl ⟨t, rfl, .inl rfl⟩)
  · obtain ⟨t', ht', hi⟩ := hi
    obtain rfl : t = t' := by simpa using ht'
    rcases hi with rfl | ⟨x, hx, hi⟩
    · exact .inl ⟨_, rfl, .inl rfl⟩
    · rw [hb2.cell 0] at hx
      obtain rfl : v' = x := by simpa using hx
      rcases hnew' i hi with h | h
      · exact .inl ⟨_, rfl, .inr ⟨v, hv, h⟩⟩
      · exact .inr h

set_option maxHeartbeats 400000 in
theorem tape_pass (B t : Nat) (ks : List Int) (k : Int) (w : World) (h : TapeI w B t ks) (hbB : B ≤ w.heap.size) (hl : ks.length ≤ 1000000000) :
    Calls Try.prog 50 #[.pointer (some ⟨t, 0, none⟩), .int .i64 k] w fun e w' => e = .returned (.tuple #[]) ∧ StepI B (some t) w w' (ks ++ [k]) (fun _ => False) := by
  obtain ⟨v, hB, hb, ho, hne⟩ := h
  have hv : w.cell? ⟨t, 0, none⟩ = some v := by rw [hb.cell 0]; rfl
  go_enter Try.func50, Try.ntmps50
  go_wp2_with (at_builtin; refine print_append_cells B rfl _ _ 22 3 (.int .i64 0) 1 8 rfl Try.underlying22 tinfo_int rfl (by decide) (by decide) v ks.length _ [.int .i64 k] rfl rfl rfl (by simp [Value.oneCell']) ho (Below.refl _ _) hbB (by omega) ?_)
  intro v1 w1 hown1 hb1 hg1 hat1
  have H := tape_note hB hb hne hown1 hg1 hat1
  have hb1 : Blk w1 t 65 [v] := hb.same (hg1.block t hb.lt (fun e => hne e.symm))
  have hc1 : w1.cell? ⟨t, 0, none⟩ = some v := by rw [hb1.cell 0]; rfl
  have hf1 : w1.frozen? ⟨t, 0, none⟩ = false := hb1.free _ rfl
  have hex : ∃ A c, v1 = .slice A (ks.length + 1) c := by
    rcases hown1.2 with ⟨h, _⟩ | ⟨g, cap, cur, h, _⟩
    · exact ⟨_, _, by rw [h]; congr 1; omega⟩
    · exact ⟨_, _, h⟩
  clear hown1 hg1 hat1 hb1 hv ho hb
  obtain ⟨A, c, hv1⟩ := hex
  rw [hv1] at H ⊢
  go_wp2
  go_end0
  exact ⟨rfl, H⟩

set_option maxHeartbeats 400000 in
theorem pass_nil (k : Int) (w : World) : Calls Try.prog 26 #[.nilIface, .int .i64 k] w fun e w' => e = .returned (.tuple #[]) ∧ w = w' := by
  go_enter Try.func26, Try.ntmps26
  go_wp2
  go_end0
  exact ⟨rfl, rfl⟩
set_option maxHeartbeats 400000 in
theorem pass_any (B : Nat) (g : Option Nat) (ks : List Int) (k : Int) (w : World) (h : GAtI w B g ks) (hbB : B ≤ w.heap.size) (hl : ks.length ≤ 1000000000) :
    Calls Try.prog 26 #[gvI g, .int .i64 k] w fun e w' => e = .returned (.tuple #[]) ∧ StepI B g w w' (ks ++ [k]) (fun _ => False) := by
  cases g with
  | none =>
    have H : StepI B none w w (ks ++ [k]) (fun _ => False) := Step.refl (GAt.nil _ _ _ _ _) _
    show Calls Try.prog 26 #[.nilIface, .int .i64 k] w _
    clear h
    go_enter Try.func26, Try.ntmps26
    go_wp2
    go_end0
    exact ⟨rfl, H⟩
  | some t =>
    have h' := h t rfl
    have hm := method_pass
    show Calls Try.prog 26 #[.iface 46 (.pointer (some ⟨t, 0, none⟩)), .int .i64 k] w _
    go_enter Try.func26, Try.ntmps26
    go_wp2_with fail
    refine (tape_pass B t ks k w h' hbB hl).mono ?_
    rintro e w' ⟨rfl, H⟩
    clear h h'
    go_wp2
    go_end0
    exact ⟨rfl, H⟩
end Go.Proofs.Ytoeaoeekjabaaaa
