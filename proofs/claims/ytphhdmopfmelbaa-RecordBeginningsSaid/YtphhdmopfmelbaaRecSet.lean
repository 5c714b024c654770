/- record: what made stores, with a nil gate. -/
import Derived.Test.YtphhdmopfmelbaaWorld
namespace Go.Proofs.Ytphhdmopfmelbaa
open Go.RowKit Go.Proofs.YtphhdmopfmelbaaW.PrintWords
set_option linter.unusedVariables false
set_option linter.unusedSimpArgs false

theorem gnil (w : World) : GAtI w 0 none [] := fun t e => by cases e
theorem upd_upd {α : Type} (R : Nat → Option α) (b : Nat) (o o' : α) : upd (upd R b o) b o' = upd R b o' := by
  funext k; unfold upd; split <;> rfl
section
variable (R : Nat → Option RecO) (X : Nat → Option ScxO) (w : World) (h : Repint w R X)
include h
theorem set_state (b : Nat) (o : ScxO) (ho : X b = some o) (n : Int) (n0 : 0 ≤ n) (n1 : n ≤ 1000) :
    Calls Try.prog 86 #[.pointer (some ⟨b, 7, none⟩), .nilIface, .int .i64 n] w fun e w' => e = .returned (.tuple #[]) ∧ Fr w w' (fun k => k = b) ∧ Repint w' R (upd X b { o with state := n }) := by
  refine (num_store 0 none [] b 7 152 _ w (gnil w) (Nat.zero_le _) (by simp) (h.scx b o ho) (by decide) (by decide) n n0 n1 (.int .i64 o.state) rfl).mono ?_
  rintro e w1 ⟨rfl, H, hb⟩
  exact ⟨rfl, H.fr0, h.setScx tys_int (gnil w) ho H hb⟩
theorem set_frozen (b : Nat) (o : ScxO) (ho : X b = some o) (f : Bool) :
    Calls Try.prog 87 #[.pointer (some ⟨b, 8, none⟩), .nilIface, .bool f] w fun e w' => e = .returned (.tuple #[]) ∧ Fr w w' (fun k => k = b) ∧ Repint w' R (upd X b { o with frozen := f }) := by
  cases f
  · refine (mark_store_false 0 none [] b 8 152 _ w (gnil w) (Nat.zero_le _) (by simp) (h.scx b o ho) (by decide) (by decide) (u32b o.frozen) rfl).mono ?_
    rintro e w1 ⟨rfl, H, hb⟩
    exact ⟨rfl, H.fr0, h.setScx tys_int (gnil w) ho H hb⟩
  · refine (mark_store_true 0 none [] b 8 152 _ w (gnil w) (Nat.zero_le _) (by simp) (h.scx b o ho) (by decide) (by decide) (u32b o.frozen) rfl).mono ?_
    rintro e w1 ⟨rfl, H, hb⟩
    exact ⟨rfl, H.fr0, h.setScx tys_int (gnil w) ho H hb⟩
theorem set_field (b : Nat) (o : RecO) (ho : R b = some o) (i : Nat) (hi : i < o.fields.length) (p : Option Nat) (hp : Ok R p) :
    Calls Try.prog 88 #[.pointer (some ⟨o.fb, i, none⟩), .nilIface, pv p] w fun e w' => e = .returned (.tuple #[]) ∧ Fr w w' (fun k => k = o.fb) ∧ Repint w' (upd R b { o with fields := o.fields.set i p }) X := by
  refine (cell_store_Recordint 0 none [] o.fb i 170 _ w (gnil w) (Nat.zero_le _) (by simp) (h.fld b o ho) (by decide) (by decide) p (pv o.fields[i]) (by simp [List.getElem?_eq_getElem hi]) (h.recPtr hp)).mono ?_
  rintro e w1 ⟨rfl, H, hb⟩
  refine ⟨rfl, H.fr0, h.setFields tys_int (gnil w) ho H (by simp) (by rw [List.map_set]; exact hb) (fun z hz => ?_)⟩
  rcases List.mem_or_eq_of_mem_set hz with hz | hz
  · exact h.kf b o ho z hz
  · exact hp z hz.symm
theorem set_info (b : Nat) (o : RecO) (ho : R b = some o) (p : Option Nat) (hp : Ok X p) :
    Calls Try.prog 90 #[.pointer (some ⟨b, 2, none⟩), .nilIface, pv p] w fun e w' => e = .returned (.tuple #[]) ∧ Fr w w' (fun k => k = b) ∧ Repint w' (upd R b { o with info := p }) X := by
  refine (cell_store_Scxint 0 none [] b 2 178 _ w (gnil w) (Nat.zero_le _) (by simp) (h.recs b o ho).1 (by decide) (by decide) p _ (h.at_ ho 1) (h.scxPtr hp)).mono ?_
  rintro e w1 ⟨rfl, H, hb⟩
  refine ⟨rfl, H.fr0, h.setRec tys_int (gnil w) ho H rfl rfl rfl ?_ hp⟩
  rw [show 2 = 1 + 1 from rfl, o.set_tail (h.recs b o ho).2] at hb
  exact hb
theorem set_mark (b : Nat) (o : RecO) (ho : R b = some o) (f : Bool) :
    Calls Try.prog 87 #[.pointer (some ⟨b, 3, none⟩), .nilIface, .bool f] w fun e w' => e = .returned (.tuple #[]) ∧ Fr w w' (fun k => k = b) ∧ Repint w' (upd R b { o with mark := f }) X := by
  have C : ∀ u, (hb : u = u32b f) → ∀ w', StepI 0 none w w' ([] ++ [2]) (fun k => k = b) → Blk w' b 178 (o.cells.set 3 u) → Fr w w' (fun k => k = b) ∧ Repint w' (upd R b { o with mark := f }) X := fun u hu w' H hb => by
    subst hu
    refine ⟨H.fr0, h.setRec tys_int (gnil w) ho H rfl rfl rfl ?_ (fun x e => h.ki b o ho x e)⟩
    rw [show 3 = 1 + 2 from rfl, o.set_tail (h.recs b o ho).2] at hb
    exact hb
  cases f
  · refine (mark_store_false 0 none [] b 3 178 _ w (gnil w) (Nat.zero_le _) (by simp) (h.recs b o ho).1 (by decide) (by decide) _ (h.at_ ho 2)).mono ?_
    rintro e w1 ⟨rfl, H, hb⟩
    exact ⟨rfl, C _ rfl _ H hb⟩
  · refine (mark_store_true 0 none [] b 3 178 _ w (gnil w) (Nat.zero_le _) (by simp) (h.recs b o ho).1 (by decide) (by decide) _ (h.at_ ho 2)).mono ?_
    rintro e w1 ⟨rfl, H, hb⟩
    exact ⟨rfl, C _ rfl _ H hb⟩
end
end Go.Proofs.Ytphhdmopfmelbaa
