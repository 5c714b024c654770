/- Joined texts: ChainU ChainV GrowB ChainW ChainX. -/
import Derived.Test.YteeficpjggimcaaM4
import Derived.Test.YteeficpjggimcaaM7

/- larchref06 (the document's map): what look, Inside, with compute on a list whose keys rise is what the chain's operations do. No walk. -/
namespace Go.Proofs.Yteeficpjggimcaa
open Go.RowKit Go.Proofs.YteeficpjggimcaaW.PrintWords Go.Proofs.YteeficpjggimcaaW.PrintLast Go.Proofs.Yteeficpjggimcaa.PChainCalls
set_option linter.unusedVariables false
set_option linter.unusedSimpArgs false

def lookL : List (Int × Int) → Int → Int × Bool
  | [], _ => (0, false)
  | x :: r, key => if x.1 = key then (x.2, true) else lookL r key
def withL (key val : Int) : List (Int × Int) → Bool → List (Int × Int)
  | [], done => if done then [] else [(key, val)]
  | x :: r, done => if done = false ∧ key ≤ x.1 then (key, val) :: ((if x.1 = key then [] else [x]) ++ withL key val r true) else (if x.1 = key then [] else [x]) ++ withL key val r done
def insL (lo hi : Int) (l : List (Int × Int)) : List (Int × Int) := l.filter fun x => decide (lo ≤ x.1 ∧ x.1 ≤ hi)
/-- The keys rise. -/
abbrev Srt (l : List (Int × Int)) : Prop := l.Pairwise fun a b => a.1 < b.1
theorem getV_nil (key : Int) : getV [] key = (0, false) := rfl
theorem getV_cons (x : Int × Int) (l : List (Int × Int)) (key : Int) : getV (x :: l) key = if x.1 < key then getV l key else if x.1 = key then (x.2, true) else (0, false) := by
  unfold getV
  by_cases h : x.1 < key
  · simp only [cutN, if_pos h, List.drop_succ_cons]
  · simp only [cutN, if_neg h, List.drop_zero]
theorem putL_cons (x : Int × Int) (l : List (Int × Int)) (key val : Int) : putL (x :: l) key val = if x.1 < key then x :: putL l key val else if x.1 = key then (key, val) :: l else (key, val) :: x :: l := by
  unfold putL
  by_cases h : x.1 < key
  · simp only [cutN, if_pos h, List.drop_succ_cons, List.take_succ_cons]
    split
    · split <;> simp
    · simp
  · simp only [cutN, if_neg h, List.drop_zero, List.take_zero, List.nil_append]
theorem delL_cons (x : Int × Int) (l : List (Int × Int)) (key : Int) : delL (x :: l) key = if x.1 < key then x :: delL l key else if x.1 = key then l else x :: l := by
  unfold delL
  by_cases h : x.1 < key
  · simp only [cutN, if_pos h, List.drop_succ_cons, List.take_succ_cons]
    split
    · split <;> simp
    · rfl
  · simp only [cutN, if_neg h, List.drop_zero, List.take_zero, List.nil_append]
theorem look_above (key : Int) : ∀ (l : List (Int × Int)), (∀ x ∈ l, key < x.1) → lookL l key = (0, false)
  | [], _ => rfl
  | x :: l, h => by
    have := h x (List.mem_cons_self ..)
    unfold lookL
    rw [if_neg (by omega)]
    exact look_above key l (fun y hy => h y (List.mem_cons_of_mem _ hy))
theorem look_get (key : Int) : ∀ (l : List (Int × Int)), Srt l → lookL l key = getV l key
  | [], _ => rfl
  | x :: l, h => by
    obtain ⟨h1, h2⟩ := List.pairwise_cons.1 h
    rw [getV_cons]
    unfold lookL
    by_cases hk : x.1 < key
    · rw [if_pos hk, if_neg (by omega)]
      exact look_get key l h2
    · rw [if_neg hk]
      by_cases he : x.1 = key
      · rw [if_pos he, if_pos he]
      · rw [if_neg he, if_neg he]
        exact look_above key l (fun y hy => by have := h1 y hy; omega)
theorem with_done (key val : Int) : ∀ (l : List (Int × Int)), (∀ x ∈ l, key < x.1) → withL key val l true = l
  | [], _ => rfl
  | x :: l, h => by
    have := h x (List.mem_cons_self ..)
    unfold withL
    rw [if_neg (by simp), if_neg (by omega), with_done key val l (fun y hy => h y (List.mem_cons_of_mem _ hy))]
    rfl
theorem with_put (key val : Int) : ∀ (l : List (Int × Int)), Srt l → withL key val l false = putL l key val
  | [], _ => rfl
  | x :: l, h => by
    obtain ⟨h1, h2⟩ := List.pairwise_cons.1 h
    rw [putL_cons]
    unfold withL
    by_cases hk : x.1 < key
    · rw [if_pos hk, if_neg (fun h => by omega), if_neg (by omega), with_put key val l h2]
      rfl
    · rw [if_neg hk, if_pos ⟨rfl, by omega⟩, with_done key val l (fun y hy => by have := h1 y hy; omega)]
      by_cases he : x.1 = key
      · rw [if_pos he, if_pos he]; rfl
      · rw [if_neg he, if_neg he]; rfl
theorem with_del (key : Int) : ∀ (l : List (Int × Int)), Srt l → withL key 0 l true = delL l key
  | [], _ => rfl
  | x :: l, h => by
    obtain ⟨h1, h2⟩ := List.pairwise_cons.1 h
    rw [delL_cons]
    unfold withL
    rw [if_neg (by simp)]
    by_cases hk : x.1 < key
    · rw [if_pos hk, if_neg (by omega), with_del key l h2]; rfl
    · rw [if_neg hk]
      by_cases he : x.1 = key
      · rw [if_pos he, if_pos he, with_done key 0 l (fun y hy => by have := h1 y hy; omega)]; rfl
      · rw [if_neg he, if_neg he, with_done key 0 l (fun y hy => by have := h1 y hy; omega)]; rfl
theorem ins_above (lo hi : Int) : ∀ (l : List (Int × Int)), (∀ x ∈ l, hi < x.1) → insL lo hi l = [] := fun l h => by
  unfold insL
  rw [List.filter_eq_nil_iff]
  intro x hx
  have := h x hx
  simp; omega
theorem ins_range (lo hi : Int) (hlh : ¬ lo > hi) : ∀ (l : List (Int × Int)), Srt l → insL lo hi l = rangeL l lo hi
  | [], _ => by simp [insL, rangeL]
  | x :: l, h => by
    obtain ⟨h1, h2⟩ := List.pairwise_cons.1 h
    have ih := ins_range lo hi hlh l h2
    unfold rangeL at ih ⊢
    rw [if_neg hlh] at ih ⊢
    by_cases hk : x.1 < hi + 1
    · simp only [cutN, if_pos hk, List.take_succ_cons]
      unfold insL at ih ⊢
      rw [List.filter_cons, List.filter_cons, ih]
      by_cases hl : lo ≤ x.1
      · rw [if_pos (by simp; omega), if_pos (by simpa using hl)]
      · rw [if_neg (by simp; omega), if_neg (by simpa using hl)]
    · simp only [cutN, if_neg hk, List.take_zero, List.filter_nil]
      exact ins_above lo hi (x :: l) (fun y hy => by
        rcases List.mem_cons.1 hy with rfl | hy
        · omega
        · have := h1 y hy; omega)
theorem ins_empty (lo hi : Int) (hlh : lo > hi) (l : List (Int × Int)) : insL lo hi l = rangeL l lo hi := by
  unfold insL rangeL
  rw [if_pos hlh, List.filter_eq_nil_iff]
  intro x hx
  simp; omega
/-- What the operations leave rises too. -/
theorem put_mem {key val : Int} : ∀ {l : List (Int × Int)} {y : Int × Int}, y ∈ putL l key val → y ∈ l ∨ y.1 = key
  | [], y, h => by
    have : y ∈ [(key, val)] := h
    rw [List.mem_singleton.1 this]; exact .inr rfl
  | x :: l, y, h => by
    rw [putL_cons] at h
    split at h
    · rcases List.mem_cons.1 h with rfl | h
      · exact .inl (List.mem_cons_self ..)
      · exact (put_mem h).imp (List.mem_cons_of_mem _) id
    · split at h
      · rcases List.mem_cons.1 h with rfl | h
        · exact .inr rfl
        · exact .inl (List.mem_cons_of_mem _ h)
      · rcases List.mem_cons.1 h with rfl | h
        · exact .inr rfl
        · exact .inl h
theorem put_srt {key val : Int} : ∀ {l : List (Int × Int)}, Srt l → Srt (putL l key val)
  | [], _ => List.pairwise_singleton _ _
  | x :: l, h => by
    obtain ⟨h1, h2⟩ := List.pairwise_cons.1 h
    rw [putL_cons]
    split
    · refine List.pairwise_cons.2 ⟨fun y hy => ?_, put_srt h2⟩
      rcases put_mem hy with hy | hy
      · exact h1 y hy
      · omega
    · split
      · exact List.pairwise_cons.2 ⟨fun y hy => by have := h1 y hy; simp only; omega, h2⟩
      · refine List.pairwise_cons.2 ⟨fun y hy => ?_, h⟩
        rcases List.mem_cons.1 hy with rfl | hy
        · simp only; omega
        · have := h1 y hy; simp only; omega
theorem del_sub (key : Int) : ∀ (l : List (Int × Int)), (delL l key).Sublist l
  | [] => List.Sublist.refl _
  | x :: l => by
    rw [delL_cons]
    split
    · exact (del_sub key l).cons_cons x
    · split
      · exact List.sublist_cons_self x l
      · exact List.Sublist.refl _
theorem del_srt {key : Int} {l : List (Int × Int)} (h : Srt l) : Srt (delL l key) := h.sublist (del_sub key l)
theorem put_len {key val : Int} : ∀ (l : List (Int × Int)), (putL l key val).length ≤ l.length + 1
  | [] => Nat.le_refl _
  | x :: l => by
    have := put_len (key := key) (val := val) l
    rw [putL_cons]
    split
    · simp only [List.length_cons]; omega
    · split <;> simp
end Go.Proofs.Yteeficpjggimcaa

/- larchref06: look, Inside, with, by what they compute. -/
namespace Go.Proofs.Yteeficpjggimcaa
open Go.RowKit Go.Proofs.YteeficpjggimcaaW.PrintWords Go.Proofs.YteeficpjggimcaaW.PrintLast Go.Proofs.Yteeficpjggimcaa.PChainCalls
set_option linter.unusedVariables false
set_option linter.unusedSimpArgs false

def sp (p : Int × Int) : SP := ⟨p.1, p.2⟩
theorem sp_pr (x : SP) : sp (pr x) = x := rfl
theorem pr_sp (p : Int × Int) : pr (sp p) = p := rfl
theorem map_sp_pr (xs : List SP) : (xs.map pr).map sp = xs := by rw [List.map_map]; exact List.map_id _
theorem map_pr_sp (l : List (Int × Int)) : (l.map sp).map pr = l := by rw [List.map_map]; exact List.map_id _
theorem drop_step (xs : List SP) (j : Nat) (h : j < xs.length) : (xs.drop j).map pr = pr xs[j] :: (xs.drop (j + 1)).map pr := by
  rw [List.drop_eq_getElem_cons h]; rfl
theorem drop_end (xs : List SP) (j : Nat) (h : xs.length ≤ j) : (xs.drop j).map pr = [] := by
  rw [List.drop_eq_nil_iff.2 h]; rfl
theorem look_l0 (xs : List SP) (key : Int) (hl : xs.length ≤ 1000000000000) : ∀ (m j : Nat), xs.length ≤ j + m → larchref06_look.l0 (m + 1) xs key j = some (lookL ((xs.drop j).map pr) key) := fun m => by
  induction m with
  | zero =>
    intro j h2
    unfold larchref06_look.l0
    rw [if_neg (by omega), drop_end xs j (by omega)]; rfl
  | succ m ih =>
    intro j h2
    unfold larchref06_look.l0
    by_cases hj : j < xs.length
    · rw [if_pos (by omega), if_pos (by omega), rd_at xs j hj, wrap64_id (by omega) (by omega), drop_step xs j hj]
      unfold lookL
      have e2 : ((j : Int) + 1) = ((j + 1 : Nat) : Int) := by omega
      rw [e2, ih (j + 1) (by omega)]
      show (if xs[j].f0 = key then some (xs[j].f1, true) else _) = some (if xs[j].f0 = key then (xs[j].f1, true) else _)
      split <;> rfl
    · rw [if_neg (by omega), drop_end xs j (by omega)]; rfl
theorem inside_l0 (xs : List SP) (lo hi : Int) (hl : xs.length ≤ 1000000000000) : ∀ (m j : Nat) (acc : List SP), acc.length + m ≤ 2000000000000 → xs.length ≤ j + m → larchref06_Inside.l0 (m + 1) xs lo hi acc j = some (acc ++ (insL lo hi ((xs.drop j).map pr)).map sp) := fun m => by
  induction m with
  | zero =>
    intro j acc ha h2
    unfold larchref06_Inside.l0
    rw [if_neg (by omega), drop_end xs j (by omega)]; simp [insL]
  | succ m ih =>
    intro j acc ha h2
    unfold larchref06_Inside.l0
    by_cases hj : j < xs.length
    · rw [if_pos (show (j : Int) < xs.length by omega), if_pos (show (0 : Int) ≤ j by omega), rd_at xs j hj, wrap64_id (by omega) (by omega), drop_step xs j hj]
      have e2 : ((j : Int) + 1) = ((j + 1 : Nat) : Int) := by omega
      rw [e2, ih (j + 1) _ (by simp; omega) (by omega), ih (j + 1) acc (by omega) (by omega), if_pos (show acc.length < 8796093022208 by omega)]
      unfold insL
      rw [List.filter_cons]
      have e3 : (pr xs[j]).1 = xs[j].f0 := rfl
      by_cases h1 : xs[j].f0 ≥ lo
      · rw [if_pos h1]
        by_cases h3 : xs[j].f0 ≤ hi
        · rw [if_pos h3, if_pos (by rw [e3]; simp; omega)]
          simp [List.append_assoc, sp, pr]
        · rw [if_neg h3, if_neg (by rw [e3]; simp; omega)]
      · rw [if_neg h1, if_neg (by rw [e3]; simp; omega)]
    · rw [if_neg (by omega), drop_end xs j (by omega)]; simp [insL]
theorem with_l0 (xs : List SP) (key val : Int) (hl : xs.length ≤ 1000000000000) : ∀ (m j : Nat) (acc : List SP) (done : Bool), acc.length + 2 * m ≤ 4000000000000 → xs.length ≤ j + m → larchref06_with.l0 (2 * m + 1) xs key val acc done j = some (acc ++ (withL key val ((xs.drop j).map pr) done).map sp) := fun m => by
  induction m with
  | zero =>
    intro j acc done ha h2
    show larchref06_with.l0 (0 + 1) xs key val acc done j = _
    unfold larchref06_with.l0
    rw [if_neg (by omega), drop_end xs j (by omega), if_pos (show acc.length < 8796093022208 by omega)]
    cases done <;> simp [withL, sp]
  | succ m ih =>
    intro j acc done ha h2
    show larchref06_with.l0 (2 * m + 1 + 1 + 1) xs key val acc done j = _
    unfold larchref06_with.l0
    by_cases hj : j < xs.length
    · have e2 : ((j : Int) + 1) = ((j + 1 : Nat) : Int) := by omega
      have e3 : (pr xs[j]).1 = xs[j].f0 := rfl
      have hj1 : ∀ (d : Bool) (acc2 : List SP), acc2.length + 2 * m + 1 ≤ 4000000000000 → larchref06_with.j1 (2 * m + 1 + 1) xs key val acc2 d j false = some (acc2 ++ ((if xs[j].f0 = key then [] else [pr xs[j]]) ++ withL key val ((xs.drop (j + 1)).map pr) d).map sp) := fun d acc2 h9 => by
        unfold larchref06_with.j1
        rw [if_neg (by simp), if_pos (show (0 : Int) ≤ j by omega), if_pos (show (j : Int) < xs.length by omega), rd_at xs j hj, wrap64_id (by omega) (by omega), e2, if_pos (show acc2.length < 8796093022208 by omega), ih (j + 1) acc2 d (by omega) (by omega), ih (j + 1) _ d (by simp; omega) (by omega)]
        split
        · simp
        · simp [List.append_assoc, sp, pr]
      have hj2 : ∀ (acc2 : List SP), acc2.length + 2 * m + 2 ≤ 4000000000000 → larchref06_with.j1 (2 * m + 1 + 1) xs key val acc2 done j true = some (acc2 ++ ((key, val) :: ((if xs[j].f0 = key then [] else [pr xs[j]]) ++ withL key val ((xs.drop (j + 1)).map pr) true)).map sp) := fun acc2 h9 => by
        unfold larchref06_with.j1
        rw [if_pos rfl, if_pos (show acc2.length < 8796093022208 by omega), Option.bind_some]
        rw [if_pos (show (0 : Int) ≤ j by omega), if_pos (show (j : Int) < xs.length by omega), rd_at xs j hj, wrap64_id (by omega) (by omega), e2, if_pos (show (acc2 ++ [(⟨key, val⟩ : SP)]).length < 8796093022208 by simp; omega), ih (j + 1) _ true (by simp; omega) (by omega), ih (j + 1) _ true (by simp; omega) (by omega)]
        split
        · simp [sp]
        · simp [List.append_assoc, sp, pr]
      rw [if_pos (show (j : Int) < xs.length by omega), drop_step xs j hj]
      unfold withL
      rw [e3]
      cases done with
      | true =>
        rw [if_pos rfl, if_neg (by simp), hj1 true acc (by omega)]
      | false =>
        rw [if_neg (by simp), if_pos (show (0 : Int) ≤ j by omega), rd_at xs j hj]
        by_cases h5 : key ≤ xs[j].f0
        · rw [decide_eq_true (show xs[j].f0 ≥ key from h5), hj2 acc (by omega), if_pos (show (false = false ∧ key ≤ xs[j].f0) from ⟨rfl, h5⟩)]
        · rw [decide_eq_false (show ¬ xs[j].f0 ≥ key from h5), hj1 false acc (by omega), if_neg (show ¬ (false = false ∧ key ≤ xs[j].f0) from fun h => h5 h.2)]
    · rw [if_neg (by omega), drop_end xs j (by omega), if_pos (show acc.length < 8796093022208 by omega)]
      cases done <;> simp [withL, sp]
/-- A list in the call's own memory. -/
abbrev PRow (w : World) (B : Nat) (v : Value) (l : List (Int × Int)) : Prop := Kd.R k56 56 w B (fun _ => True) v (l.map sp)
/-- A list that is read. -/
abbrev PRd (w : World) (A : Option Addr) (l : List (Int × Int)) : Prop := Kd.C k56 w A (l.map sp).length (l.map sp)
theorem ref06_look (w : World) (A : Option Addr) (c : Nat) (l : List (Int × Int)) (key : Int) (hl : l.length ≤ 1000000000) (h : PRd w A l) (hc : l.length ≤ c) :
    Calls Try.prog 23 #[.slice A (l.map sp).length c, .int .i64 key] w fun e w' => e = .returned (.tuple #[.int .i64 (lookL l key).1, .bool (lookL l key).2]) ∧ Below w.heap.size w w' := by
  have hf := look_l0 (l.map sp) key (by simp; omega) (l.map sp).length 0 (by omega)
  rw [List.drop_zero, map_pr_sp] at hf
  refine (larchref06_look.calls _ A c (l.map sp) key _ _ w h (by simpa using hc) hf).mono ?_
  rintro e w1 ⟨rfl, mm, hw⟩
  exact ⟨rfl, by rw [hw]; exact pw_below_drewN (Below.refl _ _) mm⟩
theorem ref06_inside (w : World) (A : Option Addr) (c : Nat) (l : List (Int × Int)) (lo hi : Int) (hl : l.length ≤ 1000000000) (h : PRd w A l) (hc : l.length ≤ c) :
    Calls Try.prog 24 #[.slice A (l.map sp).length c, .int .i64 lo, .int .i64 hi] w fun e w' => ∃ v, e = .returned v ∧ PRow w' w.heap.size v (insL lo hi l) ∧ Below w.heap.size w w' := by
  have hf := inside_l0 (l.map sp) lo hi (by simp; omega) (l.map sp).length 0 [] (by simp; omega) (by omega)
  rw [List.drop_zero, map_pr_sp, List.nil_append] at hf
  exact larchref06_Inside.calls _ A c (l.map sp) lo hi _ w h (by simpa using hc) hf
theorem ref06_with (w : World) (A : Option Addr) (c : Nat) (l : List (Int × Int)) (key val : Int) (done : Bool) (hl : l.length ≤ 1000000000) (h : PRd w A l) (hc : l.length ≤ c) :
    Calls Try.prog 25 #[.slice A (l.map sp).length c, .int .i64 key, .int .i64 val, .bool done] w fun e w' => ∃ v, e = .returned v ∧ PRow w' w.heap.size v (withL key val l done) ∧ Below w.heap.size w w' := by
  have hf := with_l0 (l.map sp) key val (by simp; omega) (l.map sp).length 0 [] done (by simp; omega) (by omega)
  rw [List.drop_zero, map_pr_sp, List.nil_append] at hf
  exact larchref06_with.calls _ A c (l.map sp) key val done _ w h (by simpa using hc) hf
end Go.Proofs.Yteeficpjggimcaa

/- Small words for walks that make lists: append as a step; an append to an empty literal. No program but its types. -/
namespace Go.Proofs.Yteeficpjggimcaa
open Go.RowKit Go.Proofs.YteeficpjggimcaaW.PrintWords
set_option linter.unusedVariables false
set_option linter.unusedSimpArgs false

theorem one_int (l : List Int) : ∀ u ∈ l.map (Value.int .i64), u.oneCell' = true := fun u hu => by
  obtain ⟨x, _, rfl⟩ := List.mem_map.1 hu
  rfl
theorem one_bool (l : List Bool) : ∀ u ∈ l.map Value.bool, u.oneCell' = true := fun u hu => by
  obtain ⟨x, _, rfl⟩ := List.mem_map.1 hu
  rfl
theorem append_exec {P : Program} {o : Oper} {a : Act} {s x : Operand} {t : TypeId} {v u r : Value} {w w1 : World} (ho : o.op = .call { callee := .builtin .append, args := #[s, x], argTypes := #[t, t] }) (hs : a.eval s = v) (hx : a.eval x = u)
    (hr : (Builtin.append_ #[t, t] o.type #[v, u]).run P w = .ok r w1) : (execOp a.eval o).run P w = .ok (.value r) w1 := by
  unfold execOp
  simp only [ho, resolve, invoke, builtin, Sem.run_bind, Sem.run_pure, Result.andThen_ok, List.map_toArray, List.map_cons, List.map_nil, hs, hx, hr]
theorem store_exec {P : Program} {o : Oper} {a : Act} {p x : Operand} {t : TypeId} {v u : Value} {w w1 : World} (ho : o.op = .store t p x) (hp : a.eval p = v) (hx : a.eval x = u)
    (hr : (Instr.storeAt t v u).run P w = .ok () w1) : (execOp a.eval o).run P w = .ok .skip w1 := by
  unfold execOp
  simp only [ho, Sem.run_bind, Sem.run_pure, Result.andThen_ok, hp, hx, hr]
theorem run_append_lits {P : Program} {w : World} {s : Nat} (t ty e : TypeId) (z : Value) (size bytes : Nat) (h0s : 0 < size) (ht : P.underlying t = some (.slice e)) (hinfo : (P.info? e).map (fun i => (i.zero, i.size, i.bytes)) = some (some z, size, bytes)) (hz : z.cells.size = size) (hs : Blk w s e [])
    {A : Option Addr} {n c : Nat} {us : List Value} (hr : us.length = n * size ∧ (0 < n → ∃ ad, A = some ad ∧ ∀ j u, us[j]? = some u → w.cell? (ad.add j) = some u)) (h1 : ∀ u ∈ us, u.oneCell' = true) (h63 : n ≤ maxLen) (hb : n * bytes ≤ 140737488355328) (base : Nat) (hbase : base ≤ s) :
    ∃ v w', (Builtin.append_ #[t, t] ty #[.slice (some ⟨s, 0, none⟩) 0 0, .slice A n c]).run P w = .ok v w' ∧ Below w.heap.size w w' ∧ w'.ownsRow base e size v n us ∧ ∀ k, v.ownBlock = some k → k < w'.heap.size ∧ (w.heap.size ≤ k ∨ k = s) := by
  obtain ⟨i0, hi, hzz⟩ := Option.map_eq_some_iff.1 hinfo
  simp only [Prod.mk.injEq] at hzz
  obtain ⟨hz0, hz1, hz2⟩ := hzz
  have hlt := hs.lt
  rcases Nat.eq_zero_or_pos n with rfl | hn
  · have hus : us = [] := List.eq_nil_of_length_eq_zero (by simpa using hr.1)
    subst hus
    have hown : w.ownsRow base e size (.slice (some ⟨s, 0, none⟩) 0 0) 0 [] := ⟨by simp, .inr ⟨s, 0, #[], rfl, hbase, hs, Nat.le_refl _, by simp [maxLen], by simp, by simp⟩⟩
    have hrun : (Builtin.append_ #[t, t] ty #[.slice (some ⟨s, 0, none⟩) 0 0, .slice A 0 c]).run P w = .ok (.slice (some ⟨s, 0, none⟩) 0 0) w := by
      cases A with
      | none =>
        simp [Builtin.append_, run_underlying ht, sizeOf, typeInfo, hi, Builtin.lenOf, Builtin.firstCells, storeCells, loadCells, loadCellsFrom, hz1, Result.andThen]
      | some ad =>
        simp [Builtin.append_, run_underlying ht, sizeOf, typeInfo, hi, Builtin.lenOf, Builtin.firstCells, storeCells, loadCells, loadCellsFrom, hz1, Result.andThen]
    exact ⟨_, w, hrun, Below.refl _ _, hown, fun k hk => by
      simp [Value.ownBlock] at hk
      subst hk
      exact ⟨hlt, .inr rfl⟩⟩
  · obtain ⟨ad, rfl, hc⟩ := hr.2 hn
    obtain ⟨v, w', hrun, hown, hg⟩ := run_append_arg_grows (P := P) w t ty e i0 z size bytes ht hi hz0 hz1 hz2 hz h0s ⟨s, 0, none⟩ 0 0 [] (by simp) (by simp) ad n c us (by have := hr.1; omega) hc (by omega) (by omega) (by rw [Nat.zero_add]; exact hb)
    refine ⟨v, w', by simpa using hrun, ⟨hg.os, hg.tape, hg.output, hg.size, fun k hk => hg.block k hk (by simp)⟩, ?_, fun k hk => ?_⟩
    · have : w'.ownsRow w.heap.size e size v n us := by simpa using hown
      exact own_weaken this (by omega)
    · have := World.ownsRow.lt hown k hk
      exact ⟨this.2, .inl this.1⟩
/-- append([]T{}, l...) as a step of a walk; behind 'at_builtin'. -/
theorem print_append_spread {P : Program} {ops : Array Oper} {rest : List Oper} {o : Oper} {a : Act} {Q : Exit → Act → World → Prop} {W : World} (hgd : o.guard = none) (s x : Operand) (t e : TypeId) (z : Value) (size bytes : Nat) (h0s : 0 < size)
    (ho : o.op = .call { callee := .builtin .append, args := #[s, x], argTypes := #[t, t] }) (ht : P.underlying t = some (.slice e)) (hinfo : (P.info? e).map (fun i => (i.zero, i.size, i.bytes)) = some (some z, size, bytes)) (hz : z.cells.size = size)
    {A : Option Addr} {n c : Nat} {us : List Value} (hs : a.eval s = .slice (some ⟨W.heap.size, 0, none⟩) 0 0) (hx : a.eval x = .slice A n c)
    (hr : us.length = n * size ∧ (0 < n → ∃ ad, A = some ad ∧ ∀ j u, us[j]? = some u → (W.alloc (.cells #[] e)).cell? (ad.add j) = some u)) (h1 : ∀ u ∈ us, u.oneCell' = true) (h63 : n ≤ maxLen) (hb : n * bytes ≤ 140737488355328)
    (h : ∀ v w', w'.ownsRow W.heap.size e size v n us → Below W.heap.size W w' → wpList P ops Q rest (a.put o.dst v) w') :
    wpList P ops Q (o :: rest) a (W.alloc (.cells #[] e)) := by
  obtain ⟨v, w', hrun, hbl, hown, _⟩ := run_append_lits (P := P) (w := W.alloc (.cells #[] e)) (s := W.heap.size) t o.type e z size bytes h0s ht hinfo hz (by simpa using Blk.new W e []) hr h1 h63 hb W.heap.size (Nat.le_refl _)
  refine wpList_plain hgd fun K hK => ?_
  unfold Oper.wp
  rw [append_exec ho hs hx hrun]
  exact hK _ _ (h v w' hown (((Below.refl W.heap.size W).alloc (Nat.le_refl _) _).trans (hbl.mono (by simp))))
end Go.Proofs.Yteeficpjggimcaa

/- lists of pairs in memory: the call's own, read. -/
namespace Go.Proofs.Yteeficpjggimcaa
open Go.RowKit Go.Proofs.YteeficpjggimcaaW.PrintWords Go.Proofs.YteeficpjggimcaaW.PrintLast Go.Proofs.Yteeficpjggimcaa.PChainCalls
set_option linter.unusedVariables false
set_option linter.unusedSimpArgs false

theorem flat2 : ∀ (l : List (Int × Int)) (j : Nat) (p : Int × Int), l[j]? = some p → ((l.flatMap pcells).drop (j * 2)).take 2 = pcells p
  | [], j, p, h => by simp at h
  | z :: l, 0, p, h => by
    simp only [List.getElem?_cons_zero, Option.some.injEq] at h
    subst h
    rfl
  | z :: l, j + 1, p, h => by
    have := flat2 l j p (by simpa using h)
    rw [← this, List.flatMap_cons, show (j + 1) * 2 = (pcells z).length + j * 2 by show _ = 2 + _; omega, List.drop_length_add_append]
theorem flat2_len : ∀ (l : List (Int × Int)), (l.flatMap pcells).length = l.length * 2
  | [] => rfl
  | z :: l => by rw [List.flatMap_cons, List.length_append, flat2_len l]; show 2 + _ = _; simp only [List.length_cons]; omega
theorem reps_flat {R : SP → List Value → Prop} (hR : ∀ p, R (sp p) (pcells p)) (l : List (Int × Int)) : Reps R 2 (l.map sp) (l.flatMap pcells) :=
  ⟨by rw [flat2_len]; simp, fun j q hq => by
    rw [List.getElem?_map, Option.map_eq_some_iff] at hq
    obtain ⟨p, hp, rfl⟩ := hq
    rw [flat2 l j p hp]
    exact hR p⟩
section
variable {w w' : World} {B : Nat} {v : Value} {l : List (Int × Int)}
theorem PRow.of_own (h : w.ownsRow B TPA 2 v l.length (l.flatMap pcells)) : PRow w B v l :=
  ⟨fun _ _ => trivial, l.flatMap pcells, by rw [List.length_map]; exact h, reps_flat (fun p => k56_mkM w B _ (sp p)) l⟩
theorem PRow.rd (h : PRow w B v l) : ∃ A c, v = .slice A (l.map sp).length c ∧ PRd w A l ∧ l.length ≤ c := by
  obtain ⟨_, inner, ho, hr⟩ := h
  obtain ⟨A, c, hv, hrow⟩ := own_reads_row ho (hr.imp_ (fun p c hp => k56.K_of_M hp)) rfl
  refine ⟨A, c, hv, hrow, ?_⟩
  rcases ho.2 with ⟨_, h0⟩ | ⟨g, cap, cur, hv', _, _, hc, _⟩
  · have : l.length = 0 := by simpa using h0
    omega
  · rw [hv] at hv'
    simp only [Value.slice.injEq] at hv'
    rw [hv'.2.2]
    simpa using hc
theorem PRow.below (h : PRow w B v l) (hb : Below w.heap.size w w') : PRow w' B v l := by
  obtain ⟨h1, inner, ho, hr⟩ := h
  exact ⟨h1, inner, own_move ho (fun k hk => hb.block k (World.ownsRow.lt ho k hk).2), ⟨hr.1, fun j p hp => by
    have := hr.2 j p hp
    rw [k56_openM this] at *
    exact k56_mkM _ _ _ _⟩⟩
theorem PRow.fr (h : PRow w B v l) {S : Nat → Prop} (hf : Fr w w' S) (hS : ∀ k, S k → ∃ T ys, Blk w k T ys ∧ T ≠ TPA) : PRow w' B v l := by
  obtain ⟨h1, inner, ho, hr⟩ := h
  exact ⟨h1, inner, own_move ho (fun k hk => hf.block k (World.ownsRow.lt ho k hk).2 (fun hx => by
    obtain ⟨T, ys, hy, hT⟩ := hS k hx
    obtain ⟨zs, hz⟩ := owns_typed' ho k hk
    exact hT (hy.inj hz).1)), ⟨hr.1, fun j p hp => by
    have := hr.2 j p hp
    rw [k56_openM this] at *
    exact k56_mkM _ _ _ _⟩⟩
theorem PRow.lower (h : PRow w B v l) {B' : Nat} (hB : B' ≤ B) : PRow w B' v l := Kd.R_lower h hB
theorem PRd.below {A : Option Addr} (h : PRd w A l) (hb : Below w.heap.size w w') : PRd w' A l := Kd.C_below h hb
/-- As a row of cells. -/
theorem PRd.cells {A : Option Addr} (h : PRd w A l) : (l.flatMap pcells).length = l.length * 2 ∧ (0 < l.length → ∃ ad, A = some ad ∧ ∀ j u, (l.flatMap pcells)[j]? = some u → w.cell? (ad.add j) = some u) := by
  refine ⟨flat2_len l, fun hn => ?_⟩
  obtain ⟨_, _, hc⟩ := h
  obtain ⟨ad, e, hc⟩ := hc (by simpa using hn)
  refine ⟨ad, e, fun j u hu => ?_⟩
  have hj : j < l.length * 2 := by rw [← flat2_len]; exact (List.getElem?_eq_some_iff.1 hu).1
  have hq : l[j / 2]? = some (l[j / 2]'(by omega)) := List.getElem?_eq_getElem (by omega)
  obtain ⟨c, _, hK, hcell⟩ := hc (j / 2) (sp (l[j / 2]'(by omega))) (by rw [List.getElem?_map, hq]; rfl)
  rw [k56_open hK] at hcell
  have h2 := flat2 l (j / 2) _ hq
  have h3 : (pcells (l[j / 2]'(by omega)))[j % 2]? = some u := by
    rw [← h2, List.getElem?_take_of_lt (by omega), List.getElem?_drop, show j / 2 * 2 + j % 2 = j by omega]; exact hu
  have := hcell (j % 2) u h3
  rwa [show j / 2 * k56.sz + j % 2 = j by show j / 2 * 2 + j % 2 = j; omega] at this
end
end Go.Proofs.Yteeficpjggimcaa

/- larchref06: Step, a kind at a time. Printed by p_step06.py. -/
namespace Go.Proofs.Yteeficpjggimcaa
open Go.RowKit Go.Proofs.YteeficpjggimcaaW.PrintWords Go.Proofs.YteeficpjggimcaaW.PrintLast Go.Proofs.Yteeficpjggimcaa.PChainCalls
set_option linter.unusedVariables false
set_option linter.unusedSimpArgs false

theorem one_pairs (l : List (Int × Int)) : ∀ u ∈ l.flatMap pcells, u.oneCell' = true := fun u hu => by
  obtain ⟨p, _, hp⟩ := List.mem_flatMap.1 hu
  simp only [pcells, List.mem_cons, List.not_mem_nil, or_false] at hp
  rcases hp with rfl | rfl <;> rfl
set_option maxHeartbeats 4000000 in
set_option maxRecDepth 100000 in
theorem step06_1 (w : World) (A : Option Addr) (c : Nat) (l : List (Int × Int)) (key val hi : Int) (hl : l.length ≤ 1000000) (h : PRd w A l) (hc : l.length ≤ c) :
    Calls Try.prog 9 #[.slice A l.length c, .agg #[.int .i64 1, .int .i64 key, .int .i64 val, .int .i64 hi]] w fun e w' => ∃ nv, e = .returned (.tuple #[nv, .agg #[.bool (lookL l key).2, .int .i64 0, .int .i64 (lookL l key).1, .slice none 0 0]]) ∧ PRow w' w.heap.size nv (l) ∧ Below w.heap.size w w' := by
  refine calls_hide fun Q HQ => ?_
  have HQ' := Lib.hid HQ
  have ha := (Below.refl w.heap.size w).alloc (Nat.le_refl _) (.cells #[.int .i64 1, .int .i64 key, .int .i64 val, .int .i64 hi] TOP)
  have hb := ha.alloc ha.size (.cells #[.bool false, .int .i64 0, .int .i64 0, .slice none 0 0] TRT)
  have hlk := ref06_look ((w.alloc (.cells #[.int .i64 1, .int .i64 key, .int .i64 val, .int .i64 hi] TOP)).alloc (.cells #[.bool false, .int .i64 0, .int .i64 0, .slice none 0 0] TRT)) A c l key (by omega) (h.below hb) hc
  rw [List.length_map] at hlk
  have HLK := Lib.hid hlk
  have HP := Lib.hid h
  have HB2 := Lib.hid hb
  have ho0 := (Blk.new w TOP [.int .i64 1, .int .i64 key, .int .i64 val, .int .i64 hi]).alloc (.cells #[.bool false, .int .i64 0, .int .i64 0, .slice none 0 0] TRT)
  have hr0 := Blk.new (w.alloc (.cells #[.int .i64 1, .int .i64 key, .int .i64 val, .int .i64 hi] TOP)) TRT [.bool false, .int .i64 0, .int .i64 0, .slice none 0 0]
  rw [World.size_alloc] at hr0
  have HO0 := Lib.hid ho0
  have HR0 := Lib.hid hr0
  have o1 := HO0.out.cell 1
  simp only [List.getElem?_cons_zero, List.getElem?_cons_succ] at o1
  clear HQ h ha hb hlk ho0 hr0
  go_enter Try.func9, Try.ntmps9
  go_wp2_with fail
  clear o1
  generalize (w.alloc (.cells #[.int .i64 1, .int .i64 key, .int .i64 val, .int .i64 hi] 37)).alloc (.cells #[.bool false, .int .i64 0, .int .i64 0, .slice none 0 0] 39) = w0 at *
  refine HLK.out.mono ?_
  rintro e w1 ⟨rfl, hb⟩
  have HB1 := Lib.hid (HB2.out.trans (hb.mono HB2.out.size))
  have HO1 := Lib.hid (HO0.out.below hb HO0.out.lt)
  have HR1 := Lib.hid (HR0.out.below hb HR0.out.lt)
  have hbz := (Below.refl w1.heap.size w1).alloc (Nat.le_refl _) (.cells #[.bool false, .int .i64 0, .int .i64 0, .slice none 0 0] TRT)
  have HQ2 := Lib.hid (Blk.new w1 TRT [.bool false, .int .i64 0, .int .i64 0, .slice none 0 0])
  have HO2 := Lib.hid (HO1.out.below hbz HO1.out.lt)
  have HR2 := Lib.hid (HR1.out.below hbz HR1.out.lt)
  have HB3 := Lib.hid (HB1.out.alloc HB1.out.size (.cells #[.bool false, .int .i64 0, .int .i64 0, .slice none 0 0] TRT))
  have HZ := Lib.hid (And.intro HB1.out.size HR1.out.lt)
  clear hb hbz HLK HB2 HO0 HR0
  generalize hok : (lookL l key).2 = ok_ at *
  generalize hv : (lookL l key).1 = v_ at *
  have HOK := Lib.hid (And.intro hok hv)
  clear hok hv
  have o0 := HO2.out.cell 0
  have o1 := HO2.out.cell 1
  have o3 := HO2.out.cell 3
  have a0 := HQ2.out.cell 0
  have az0 : (w1.alloc (.cells #[.bool false, .int .i64 0, .int .i64 0, .slice none 0 0] TRT)).frozen? ⟨w1.heap.size, 0, none⟩ = false := HQ2.out.free _ rfl
  have a1 := HQ2.out.cell 1
  have az1 : (w1.alloc (.cells #[.bool false, .int .i64 0, .int .i64 0, .slice none 0 0] TRT)).frozen? ⟨w1.heap.size, 1, none⟩ = false := HQ2.out.free _ rfl
  have a2 := HQ2.out.cell 2
  have az2 : (w1.alloc (.cells #[.bool false, .int .i64 0, .int .i64 0, .slice none 0 0] TRT)).frozen? ⟨w1.heap.size, 2, none⟩ = false := HQ2.out.free _ rfl
  have a3 := HQ2.out.cell 3
  have az3 : (w1.alloc (.cells #[.bool false, .int .i64 0, .int .i64 0, .slice none 0 0] TRT)).frozen? ⟨w1.heap.size, 3, none⟩ = false := HQ2.out.free _ rfl
  simp only [List.getElem?_cons_zero, List.getElem?_cons_succ] at o0 o1 o3 a0 a1 a2 a3
  go_wp2_with fail
  have hbq := (Below.refl w1.heap.size w1).alloc (Nat.le_refl _) (.cells #[.bool ok_, .int .i64 0, .int .i64 v_, .slice none 0 0] TRT)
  have HQ3 := Lib.hid (Blk.new w1 TRT [.bool ok_, .int .i64 0, .int .i64 v_, .slice none 0 0])
  have HO3 := Lib.hid (HO1.out.below hbq HO1.out.lt)
  have HR3 := Lib.hid (HR1.out.below hbq HR1.out.lt)
  have HB4 := Lib.hid (HB1.out.alloc HB1.out.size (.cells #[.bool ok_, .int .i64 0, .int .i64 v_, .slice none 0 0] TRT))
  clear hbq o0 o1 o3 a0 a1 a2 a3 az0 az1 az2 az3 HQ2 HO2 HR2 HB3 HO1 HR1 HB1
  generalize w1.alloc (.cells #[.bool ok_, .int .i64 0, .int .i64 v_, .slice none 0 0] 39) = w2 at *
  generalize hrb : w.heap.size + 1 = rb_ at *
  have HRB := Lib.hid hrb
  clear hrb
  generalize hqb : w1.heap.size = qb_ at *
  have HQB := Lib.hid hqb
  clear hqb
  go_loopw [9] (fun k wr => ∃ j : Nat, j ≤ l.length ∧ k = .int .i64 j ∧ Below w2.heap.size w2 wr) (fun k _ => l.length - (intOf k).toNat)
  case atStart => exact ⟨0, Nat.zero_le _, rfl, Below.refl _ _⟩
  case round =>
    obtain ⟨j, hj, rfl, hbel⟩ := hrel
    have HBL := Lib.hid hbel
    clear hbel
    by_cases hlt : j < l.length
    · obtain ⟨ad, hA, c0, c1⟩ := pair_at ((HP.out.below HB4.out).below HBL.out) (i := j) (by simpa using hlt)
      subst hA
      have o0 := (HO3.out.below HBL.out HO3.out.lt).cell 0
      have a0 := (HQ3.out.below HBL.out HQ3.out.lt).cell 0
      simp only [List.getElem?_cons_zero] at o0 a0
      generalize (pr ((l.map sp)[j]'(by simpa using hlt))) = p at *
      obtain ⟨pk, pw⟩ := p
      simp only at c0 c1
      go_wp2_with fail
      have hz0 := (Below.refl wr.heap.size wr).alloc (Nat.le_refl _) (.cells #[.bool false, .int .i64 0, .int .i64 0, .slice none 0 0] TRT)
      have c0' := pw_cell_below hz0 c0
      have c1' := pw_cell_below hz0 c1
      have HZ1 := Blk.new wr TRT [.bool false, .int .i64 0, .int .i64 0, .slice none 0 0]
      have d0 := HZ1.cell 0
      have d1 := HZ1.cell 1
      have d2 := HZ1.cell 2
      have d3 := HZ1.cell 3
      have dz0 : (wr.alloc (.cells #[.bool false, .int .i64 0, .int .i64 0, .slice none 0 0] TRT)).frozen? ⟨wr.heap.size, 0, none⟩ = false := HZ1.free _ rfl
      have dz1 : (wr.alloc (.cells #[.bool false, .int .i64 0, .int .i64 0, .slice none 0 0] TRT)).frozen? ⟨wr.heap.size, 1, none⟩ = false := HZ1.free _ rfl
      have dz2 : (wr.alloc (.cells #[.bool false, .int .i64 0, .int .i64 0, .slice none 0 0] TRT)).frozen? ⟨wr.heap.size, 2, none⟩ = false := HZ1.free _ rfl
      have dz3 : (wr.alloc (.cells #[.bool false, .int .i64 0, .int .i64 0, .slice none 0 0] TRT)).frozen? ⟨wr.heap.size, 3, none⟩ = false := HZ1.free _ rfl
      simp only [List.getElem?_cons_zero, List.getElem?_cons_succ] at d0 d1 d2 d3
      clear hz0 HZ1
      go_region
      have hz5 := ((Below.refl wr.heap.size wr).alloc (Nat.le_refl _) (.cells #[.bool true, .int .i64 pk, .int .i64 pw, .slice none 0 0] TRT)).drew
      have HB5 := Lib.hid (HBL.out.trans (hz5.mono HBL.out.size))
      have o0' := pw_cell_below hz5 o0
      have a0' := pw_cell_below hz5 a0
      clear hz5 c0 c1 c0' c1' d0 d1 d2 d3 dz0 dz1 dz2 dz3 o0 a0 HBL
      generalize (wr.alloc (.cells #[.bool true, .int .i64 pk, .int .i64 pw, .slice none 0 0] 39)).drew = w5 at *
      go_wp2_with fail
      go_quiet (fail)
      go_wp2
      go_roundw
      case rel => exact ⟨j + 1, by omega, by go_num, pw_below_drewN HB5.out _⟩
      case measure => simp [intOf]; omega
    · have hje : j = l.length := by omega
      subst hje
      have hcl := ((HP.out.below HB4.out).below HBL.out).cells
      have o0 := (HO3.out.below HBL.out HO3.out.lt).cell 0
      simp only [List.getElem?_cons_zero] at o0
      have HBW := Lib.hid (HB4.out.trans (HBL.out.mono HB4.out.size))
      have HCL := Lib.hid (fun (o : Obj) => And.intro hcl.1 (fun hn : 0 < l.length => by
        obtain ⟨ad, e, hc9⟩ := hcl.2 hn
        exact (⟨ad, e, fun j u hu => pw_cell_below ((Below.refl wr.heap.size wr).alloc (Nat.le_refl _) o) (hc9 j u hu)⟩ : ∃ ad, A = some ad ∧ ∀ j u, (l.flatMap pcells)[j]? = some u → (wr.alloc o).cell? (ad.add j) = some u)))
      clear hcl
      go_wp2_with (at_builtin; refine print_append_spread (W := wr) rfl _ _ TPAs TPA (.agg #[.int .i64 0, .int .i64 0]) 2 16 (by decide) rfl Try.underlying22 pinfo_pair rfl (A := A) (n := l.length) (c := c) (us := l.flatMap pcells) rfl rfl (HCL.out _) (one_pairs l) (by simp only [maxLen]; omega) (by omega) ?_)
      intro v6 w6 ho6 hb6
      have HPW := Lib.hid (PRow.of_own (Go.Proofs.YteeficpjggimcaaW.PrintWords.own_weaken ho6 HBW.out.size))
      have HB6 := Lib.hid (HBW.out.trans (hb6.mono HBW.out.size))
      have hb26 := HBL.out.trans (hb6.mono HBL.out.size)
      have HQ6 := Lib.hid (HQ3.out.below hb26 HQ3.out.lt)
      have HR6 := Lib.hid (HR3.out.below hb26 HR3.out.lt)
      have HO6 := Lib.hid (HO3.out.below hb26 HO3.out.lt)
      have HP6 := Lib.hid (HP.out.below HB6.out)
      have o1 := HO6.out.cell 0
      have o2 := HO6.out.cell 1
      have o3 := HO6.out.cell 2
      simp only [List.getElem?_cons_zero, List.getElem?_cons_succ] at o1 o2 o3
      clear ho6 hb6 hb26 o0 HBW HBL HCL HB4 HQ3 HR3 HO3
      have hne : qb_ ≠ rb_ := by have := HRB.out; have := HQB.out; have := HZ.out.1; have := HZ.out.2; omega
      have hne2 := hne.symm
      go_wp2_with fail
      have hdr := (Below.refl w6.heap.size w6).drew
      have HQ7 := Lib.hid (HQ6.out.below hdr HQ6.out.lt)
      have HR7 := Lib.hid (HR6.out.below hdr HR6.out.lt)
      clear hdr
      have q0 := HQ6.out.cell 0
      have q0' := HQ7.out.cell 0
      have r0 := HR6.out.cell 0
      have r0' := HR7.out.cell 0
      have rz0 : w6.frozen? ⟨rb_, 0, none⟩ = false := HR6.out.free _ rfl
      have rz0' : w6.drew.frozen? ⟨rb_, 0, none⟩ = false := HR7.out.free _ rfl
      have q1 := HQ6.out.cell 1
      have q1' := HQ7.out.cell 1
      have r1 := HR6.out.cell 1
      have r1' := HR7.out.cell 1
      have rz1 : w6.frozen? ⟨rb_, 1, none⟩ = false := HR6.out.free _ rfl
      have rz1' : w6.drew.frozen? ⟨rb_, 1, none⟩ = false := HR7.out.free _ rfl
      have q2 := HQ6.out.cell 2
      have q2' := HQ7.out.cell 2
      have r2 := HR6.out.cell 2
      have r2' := HR7.out.cell 2
      have rz2 : w6.frozen? ⟨rb_, 2, none⟩ = false := HR6.out.free _ rfl
      have rz2' : w6.drew.frozen? ⟨rb_, 2, none⟩ = false := HR7.out.free _ rfl
      have q3 := HQ6.out.cell 3
      have q3' := HQ7.out.cell 3
      have r3 := HR6.out.cell 3
      have r3' := HR7.out.cell 3
      have rz3 : w6.frozen? ⟨rb_, 3, none⟩ = false := HR6.out.free _ rfl
      have rz3' : w6.drew.frozen? ⟨rb_, 3, none⟩ = false := HR7.out.free _ rfl
      simp only [List.getElem?_cons_zero, List.getElem?_cons_succ] at q0 q1 q2 q3 q0' q1' q2' q3' r0 r1 r2 r3 r0' r1' r2' r3'
      go_region
      go_wp2
      have hfin : Fr w6 _ (fun k => k = rb_) := (((((Fr.refl w6 (fun k => k = rb_)).setCell ⟨rb_, 0, none⟩ (.bool ok_) (fun _ => rfl)).setCell ⟨rb_, 1, none⟩ (.int .i64 0) (fun _ => rfl)).setCell ⟨rb_, 2, none⟩ (.int .i64 v_) (fun _ => rfl)).setCell ⟨rb_, 3, none⟩ (.slice none 0 0) (fun _ => rfl)).drew
      have hblk : Blk _ rb_ TRT [.bool ok_, .int .i64 0, .int .i64 v_, .slice none 0 0] := ((((HR6.out.set 0 (.bool ok_)).set 1 (.int .i64 0)).set 2 (.int .i64 v_)).set 3 (.slice none 0 0)).drew
      refine bodyPost_ret (results_tc rfl _ _ rb_ TRT _ (0, 0) _ rfl hblk Try.underlying39 rfl rtsize) rfl ?_
      exact HQ'.out _ _ ⟨_, rfl, HPW.out.fr hfin (fun k hk => ⟨TRT, _, hk ▸ HR6.out, by decide⟩), HB6.out.trans (hfin.below (by exact HB6.out.size) (fun k hk => by have := HRB.out; omega))⟩
set_option maxHeartbeats 4000000 in
set_option maxRecDepth 100000 in
theorem step06_2 (w : World) (A : Option Addr) (c : Nat) (l : List (Int × Int)) (key val hi : Int) (hl : l.length ≤ 1000000) (h : PRd w A l) (hc : l.length ≤ c) :
    Calls Try.prog 9 #[.slice A l.length c, .agg #[.int .i64 2, .int .i64 key, .int .i64 val, .int .i64 hi]] w fun e w' => ∃ nv, e = .returned (.tuple #[nv, .agg #[.bool (lookL l key).2, .int .i64 0, .int .i64 (lookL l key).1, .slice none 0 0]]) ∧ PRow w' w.heap.size nv (withL key val l false) ∧ Below w.heap.size w w' := by
  refine calls_hide fun Q HQ => ?_
  have HQ' := Lib.hid HQ
  have ha := (Below.refl w.heap.size w).alloc (Nat.le_refl _) (.cells #[.int .i64 2, .int .i64 key, .int .i64 val, .int .i64 hi] TOP)
  have hb := ha.alloc ha.size (.cells #[.bool false, .int .i64 0, .int .i64 0, .slice none 0 0] TRT)
  have hlk := ref06_look ((w.alloc (.cells #[.int .i64 2, .int .i64 key, .int .i64 val, .int .i64 hi] TOP)).alloc (.cells #[.bool false, .int .i64 0, .int .i64 0, .slice none 0 0] TRT)) A c l key (by omega) (h.below hb) hc
  rw [List.length_map] at hlk
  have HLK := Lib.hid hlk
  have HP := Lib.hid h
  have HB2 := Lib.hid hb
  have ho0 := (Blk.new w TOP [.int .i64 2, .int .i64 key, .int .i64 val, .int .i64 hi]).alloc (.cells #[.bool false, .int .i64 0, .int .i64 0, .slice none 0 0] TRT)
  have hr0 := Blk.new (w.alloc (.cells #[.int .i64 2, .int .i64 key, .int .i64 val, .int .i64 hi] TOP)) TRT [.bool false, .int .i64 0, .int .i64 0, .slice none 0 0]
  rw [World.size_alloc] at hr0
  have HO0 := Lib.hid ho0
  have HR0 := Lib.hid hr0
  have o1 := HO0.out.cell 1
  simp only [List.getElem?_cons_zero, List.getElem?_cons_succ] at o1
  clear HQ h ha hb hlk ho0 hr0
  go_enter Try.func9, Try.ntmps9
  go_wp2_with fail
  clear o1
  generalize (w.alloc (.cells #[.int .i64 2, .int .i64 key, .int .i64 val, .int .i64 hi] 37)).alloc (.cells #[.bool false, .int .i64 0, .int .i64 0, .slice none 0 0] 39) = w0 at *
  refine HLK.out.mono ?_
  rintro e w1 ⟨rfl, hb⟩
  have HB1 := Lib.hid (HB2.out.trans (hb.mono HB2.out.size))
  have HO1 := Lib.hid (HO0.out.below hb HO0.out.lt)
  have HR1 := Lib.hid (HR0.out.below hb HR0.out.lt)
  have hbz := (Below.refl w1.heap.size w1).alloc (Nat.le_refl _) (.cells #[.bool false, .int .i64 0, .int .i64 0, .slice none 0 0] TRT)
  have HQ2 := Lib.hid (Blk.new w1 TRT [.bool false, .int .i64 0, .int .i64 0, .slice none 0 0])
  have HO2 := Lib.hid (HO1.out.below hbz HO1.out.lt)
  have HR2 := Lib.hid (HR1.out.below hbz HR1.out.lt)
  have HB3 := Lib.hid (HB1.out.alloc HB1.out.size (.cells #[.bool false, .int .i64 0, .int .i64 0, .slice none 0 0] TRT))
  have HZ := Lib.hid (And.intro HB1.out.size HR1.out.lt)
  clear hb hbz HLK HB2 HO0 HR0
  generalize hok : (lookL l key).2 = ok_ at *
  generalize hv : (lookL l key).1 = v_ at *
  have HOK := Lib.hid (And.intro hok hv)
  clear hok hv
  have o0 := HO2.out.cell 0
  have o1 := HO2.out.cell 1
  have o3 := HO2.out.cell 3
  have a0 := HQ2.out.cell 0
  have az0 : (w1.alloc (.cells #[.bool false, .int .i64 0, .int .i64 0, .slice none 0 0] TRT)).frozen? ⟨w1.heap.size, 0, none⟩ = false := HQ2.out.free _ rfl
  have a1 := HQ2.out.cell 1
  have az1 : (w1.alloc (.cells #[.bool false, .int .i64 0, .int .i64 0, .slice none 0 0] TRT)).frozen? ⟨w1.heap.size, 1, none⟩ = false := HQ2.out.free _ rfl
  have a2 := HQ2.out.cell 2
  have az2 : (w1.alloc (.cells #[.bool false, .int .i64 0, .int .i64 0, .slice none 0 0] TRT)).frozen? ⟨w1.heap.size, 2, none⟩ = false := HQ2.out.free _ rfl
  have a3 := HQ2.out.cell 3
  have az3 : (w1.alloc (.cells #[.bool false, .int .i64 0, .int .i64 0, .slice none 0 0] TRT)).frozen? ⟨w1.heap.size, 3, none⟩ = false := HQ2.out.free _ rfl
  simp only [List.getElem?_cons_zero, List.getElem?_cons_succ] at o0 o1 o3 a0 a1 a2 a3
  go_wp2_with fail
  have hbq := (Below.refl w1.heap.size w1).alloc (Nat.le_refl _) (.cells #[.bool ok_, .int .i64 0, .int .i64 v_, .slice none 0 0] TRT)
  have HQ3 := Lib.hid (Blk.new w1 TRT [.bool ok_, .int .i64 0, .int .i64 v_, .slice none 0 0])
  have HO3 := Lib.hid (HO1.out.below hbq HO1.out.lt)
  have HR3 := Lib.hid (HR1.out.below hbq HR1.out.lt)
  have HB4 := Lib.hid (HB1.out.alloc HB1.out.size (.cells #[.bool ok_, .int .i64 0, .int .i64 v_, .slice none 0 0] TRT))
  clear hbq o0 o1 o3 a0 a1 a2 a3 az0 az1 az2 az3 HQ2 HO2 HR2 HB3 HO1 HR1 HB1
  generalize w1.alloc (.cells #[.bool ok_, .int .i64 0, .int .i64 v_, .slice none 0 0] 39) = w2 at *
  generalize hrb : w.heap.size + 1 = rb_ at *
  have HRB := Lib.hid hrb
  clear hrb
  generalize hqb : w1.heap.size = qb_ at *
  have HQB := Lib.hid hqb
  clear hqb
  go_loopw [9] (fun k wr => ∃ j : Nat, j ≤ l.length ∧ k = .int .i64 j ∧ Below w2.heap.size w2 wr) (fun k _ => l.length - (intOf k).toNat)
  case atStart => exact ⟨0, Nat.zero_le _, rfl, Below.refl _ _⟩
  case round =>
    obtain ⟨j, hj, rfl, hbel⟩ := hrel
    have HBL := Lib.hid hbel
    clear hbel
    by_cases hlt : j < l.length
    · obtain ⟨ad, hA, c0, c1⟩ := pair_at ((HP.out.below HB4.out).below HBL.out) (i := j) (by simpa using hlt)
      subst hA
      have o0 := (HO3.out.below HBL.out HO3.out.lt).cell 0
      have a0 := (HQ3.out.below HBL.out HQ3.out.lt).cell 0
      simp only [List.getElem?_cons_zero] at o0 a0
      generalize (pr ((l.map sp)[j]'(by simpa using hlt))) = p at *
      obtain ⟨pk, pw⟩ := p
      simp only at c0 c1
      go_wp2_with fail
      have hz0 := (Below.refl wr.heap.size wr).alloc (Nat.le_refl _) (.cells #[.bool false, .int .i64 0, .int .i64 0, .slice none 0 0] TRT)
      have c0' := pw_cell_below hz0 c0
      have c1' := pw_cell_below hz0 c1
      have HZ1 := Blk.new wr TRT [.bool false, .int .i64 0, .int .i64 0, .slice none 0 0]
      have d0 := HZ1.cell 0
      have d1 := HZ1.cell 1
      have d2 := HZ1.cell 2
      have d3 := HZ1.cell 3
      have dz0 : (wr.alloc (.cells #[.bool false, .int .i64 0, .int .i64 0, .slice none 0 0] TRT)).frozen? ⟨wr.heap.size, 0, none⟩ = false := HZ1.free _ rfl
      have dz1 : (wr.alloc (.cells #[.bool false, .int .i64 0, .int .i64 0, .slice none 0 0] TRT)).frozen? ⟨wr.heap.size, 1, none⟩ = false := HZ1.free _ rfl
      have dz2 : (wr.alloc (.cells #[.bool false, .int .i64 0, .int .i64 0, .slice none 0 0] TRT)).frozen? ⟨wr.heap.size, 2, none⟩ = false := HZ1.free _ rfl
      have dz3 : (wr.alloc (.cells #[.bool false, .int .i64 0, .int .i64 0, .slice none 0 0] TRT)).frozen? ⟨wr.heap.size, 3, none⟩ = false := HZ1.free _ rfl
      simp only [List.getElem?_cons_zero, List.getElem?_cons_succ] at d0 d1 d2 d3
      clear hz0 HZ1
      go_region
      have hz5 := ((Below.refl wr.heap.size wr).alloc (Nat.le_refl _) (.cells #[.bool true, .int .i64 pk, .int .i64 pw, .slice none 0 0] TRT)).drew
      have HB5 := Lib.hid (HBL.out.trans (hz5.mono HBL.out.size))
      have o0' := pw_cell_below hz5 o0
      have a0' := pw_cell_below hz5 a0
      clear hz5 c0 c1 c0' c1' d0 d1 d2 d3 dz0 dz1 dz2 dz3 o0 a0 HBL
      generalize (wr.alloc (.cells #[.bool true, .int .i64 pk, .int .i64 pw, .slice none 0 0] 39)).drew = w5 at *
      go_wp2_with fail
      go_quiet (fail)
      go_wp2
      go_roundw
      case rel => exact ⟨j + 1, by omega, by go_num, pw_below_drewN HB5.out _⟩
      case measure => simp [intOf]; omega
    · have hje : j = l.length := by omega
      subst hje
      have hcl := ((HP.out.below HB4.out).below HBL.out).cells
      have o0 := (HO3.out.below HBL.out HO3.out.lt).cell 0
      simp only [List.getElem?_cons_zero] at o0
      have HBW := Lib.hid (HB4.out.trans (HBL.out.mono HB4.out.size))
      have HCL := Lib.hid (fun (o : Obj) => And.intro hcl.1 (fun hn : 0 < l.length => by
        obtain ⟨ad, e, hc9⟩ := hcl.2 hn
        exact (⟨ad, e, fun j u hu => pw_cell_below ((Below.refl wr.heap.size wr).alloc (Nat.le_refl _) o) (hc9 j u hu)⟩ : ∃ ad, A = some ad ∧ ∀ j u, (l.flatMap pcells)[j]? = some u → (wr.alloc o).cell? (ad.add j) = some u)))
      clear hcl
      go_wp2_with (at_builtin; refine print_append_spread (W := wr) rfl _ _ TPAs TPA (.agg #[.int .i64 0, .int .i64 0]) 2 16 (by decide) rfl Try.underlying22 pinfo_pair rfl (A := A) (n := l.length) (c := c) (us := l.flatMap pcells) rfl rfl (HCL.out _) (one_pairs l) (by simp only [maxLen]; omega) (by omega) ?_)
      intro v6 w6 ho6 hb6
      have HPW := Lib.hid (PRow.of_own (Go.Proofs.YteeficpjggimcaaW.PrintWords.own_weaken ho6 HBW.out.size))
      have HB6 := Lib.hid (HBW.out.trans (hb6.mono HBW.out.size))
      have hb26 := HBL.out.trans (hb6.mono HBL.out.size)
      have HQ6 := Lib.hid (HQ3.out.below hb26 HQ3.out.lt)
      have HR6 := Lib.hid (HR3.out.below hb26 HR3.out.lt)
      have HO6 := Lib.hid (HO3.out.below hb26 HO3.out.lt)
      have HP6 := Lib.hid (HP.out.below HB6.out)
      have o1 := HO6.out.cell 0
      have o2 := HO6.out.cell 1
      have o3 := HO6.out.cell 2
      simp only [List.getElem?_cons_zero, List.getElem?_cons_succ] at o1 o2 o3
      clear ho6 hb6 hb26 o0 HBW HBL HCL HB4 HQ3 HR3 HO3
      have HWI := Lib.hid (ref06_with w6 A c l key val false (by omega) HP6.out hc)
      rw [List.length_map] at HWI
      clear HPW
      go_wp2_with fail
      refine HWI.out.mono ?_
      rintro e w7 ⟨v7, rfl, hrow, hb7⟩
      have HPW := Lib.hid (hrow.lower HB6.out.size)
      have HB7 := Lib.hid (HB6.out.trans (hb7.mono HB6.out.size))
      have HQ6_ := Lib.hid (HQ6.out.below hb7 HQ6.out.lt)
      have HR6_ := Lib.hid (HR6.out.below hb7 HR6.out.lt)
      have HO6_ := Lib.hid (HO6.out.below hb7 HO6.out.lt)
      clear hrow hb7 o1 o2 o3 HWI HQ6 HR6 HO6
      have HQ6 := HQ6_
      have HR6 := HR6_
      have HB6 := HB7
      have o1 := HO6_.out.cell 0
      simp only [List.getElem?_cons_zero] at o1
      clear HQ6_ HR6_ HB7
      have hne : qb_ ≠ rb_ := by have := HRB.out; have := HQB.out; have := HZ.out.1; have := HZ.out.2; omega
      have hne2 := hne.symm
      go_wp2_with fail
      have hdr := (Below.refl w7.heap.size w7).drew
      have HQ7 := Lib.hid (HQ6.out.below hdr HQ6.out.lt)
      have HR7 := Lib.hid (HR6.out.below hdr HR6.out.lt)
      clear hdr
      have q0 := HQ6.out.cell 0
      have q0' := HQ7.out.cell 0
      have r0 := HR6.out.cell 0
      have r0' := HR7.out.cell 0
      have rz0 : w7.frozen? ⟨rb_, 0, none⟩ = false := HR6.out.free _ rfl
      have rz0' : w7.drew.frozen? ⟨rb_, 0, none⟩ = false := HR7.out.free _ rfl
      have q1 := HQ6.out.cell 1
      have q1' := HQ7.out.cell 1
      have r1 := HR6.out.cell 1
      have r1' := HR7.out.cell 1
      have rz1 : w7.frozen? ⟨rb_, 1, none⟩ = false := HR6.out.free _ rfl
      have rz1' : w7.drew.frozen? ⟨rb_, 1, none⟩ = false := HR7.out.free _ rfl
      have q2 := HQ6.out.cell 2
      have q2' := HQ7.out.cell 2
      have r2 := HR6.out.cell 2
      have r2' := HR7.out.cell 2
      have rz2 : w7.frozen? ⟨rb_, 2, none⟩ = false := HR6.out.free _ rfl
      have rz2' : w7.drew.frozen? ⟨rb_, 2, none⟩ = false := HR7.out.free _ rfl
      have q3 := HQ6.out.cell 3
      have q3' := HQ7.out.cell 3
      have r3 := HR6.out.cell 3
      have r3' := HR7.out.cell 3
      have rz3 : w7.frozen? ⟨rb_, 3, none⟩ = false := HR6.out.free _ rfl
      have rz3' : w7.drew.frozen? ⟨rb_, 3, none⟩ = false := HR7.out.free _ rfl
      simp only [List.getElem?_cons_zero, List.getElem?_cons_succ] at q0 q1 q2 q3 q0' q1' q2' q3' r0 r1 r2 r3 r0' r1' r2' r3'
      go_region
      go_wp2
      have hfin : Fr w7 _ (fun k => k = rb_) := (((((Fr.refl w7 (fun k => k = rb_)).setCell ⟨rb_, 0, none⟩ (.bool ok_) (fun _ => rfl)).setCell ⟨rb_, 1, none⟩ (.int .i64 0) (fun _ => rfl)).setCell ⟨rb_, 2, none⟩ (.int .i64 v_) (fun _ => rfl)).setCell ⟨rb_, 3, none⟩ (.slice none 0 0) (fun _ => rfl)).drew
      have hblk : Blk _ rb_ TRT [.bool ok_, .int .i64 0, .int .i64 v_, .slice none 0 0] := ((((HR6.out.set 0 (.bool ok_)).set 1 (.int .i64 0)).set 2 (.int .i64 v_)).set 3 (.slice none 0 0)).drew
      refine bodyPost_ret (results_tc rfl _ _ rb_ TRT _ (0, 0) _ rfl hblk Try.underlying39 rfl rtsize) rfl ?_
      exact HQ'.out _ _ ⟨_, rfl, HPW.out.fr hfin (fun k hk => ⟨TRT, _, hk ▸ HR6.out, by decide⟩), HB6.out.trans (hfin.below (by exact HB6.out.size) (fun k hk => by have := HRB.out; omega))⟩
set_option maxHeartbeats 4000000 in
set_option maxRecDepth 100000 in
theorem step06_3 (w : World) (A : Option Addr) (c : Nat) (l : List (Int × Int)) (key val hi : Int) (hl : l.length ≤ 1000000) (h : PRd w A l) (hc : l.length ≤ c) :
    Calls Try.prog 9 #[.slice A l.length c, .agg #[.int .i64 3, .int .i64 key, .int .i64 val, .int .i64 hi]] w fun e w' => ∃ nv, e = .returned (.tuple #[nv, .agg #[.bool (!(lookL l key).2), .int .i64 0, .int .i64 (lookL l key).1, .slice none 0 0]]) ∧ PRow w' w.heap.size nv ((if (lookL l key).2 then l else withL key val l false)) ∧ Below w.heap.size w w' := by
  refine calls_hide fun Q HQ => ?_
  have HQ' := Lib.hid HQ
  have ha := (Below.refl w.heap.size w).alloc (Nat.le_refl _) (.cells #[.int .i64 3, .int .i64 key, .int .i64 val, .int .i64 hi] TOP)
  have hb := ha.alloc ha.size (.cells #[.bool false, .int .i64 0, .int .i64 0, .slice none 0 0] TRT)
  have hlk := ref06_look ((w.alloc (.cells #[.int .i64 3, .int .i64 key, .int .i64 val, .int .i64 hi] TOP)).alloc (.cells #[.bool false, .int .i64 0, .int .i64 0, .slice none 0 0] TRT)) A c l key (by omega) (h.below hb) hc
  rw [List.length_map] at hlk
  have HLK := Lib.hid hlk
  have HP := Lib.hid h
  have HB2 := Lib.hid hb
  have ho0 := (Blk.new w TOP [.int .i64 3, .int .i64 key, .int .i64 val, .int .i64 hi]).alloc (.cells #[.bool false, .int .i64 0, .int .i64 0, .slice none 0 0] TRT)
  have hr0 := Blk.new (w.alloc (.cells #[.int .i64 3, .int .i64 key, .int .i64 val, .int .i64 hi] TOP)) TRT [.bool false, .int .i64 0, .int .i64 0, .slice none 0 0]
  rw [World.size_alloc] at hr0
  have HO0 := Lib.hid ho0
  have HR0 := Lib.hid hr0
  have o1 := HO0.out.cell 1
  simp only [List.getElem?_cons_zero, List.getElem?_cons_succ] at o1
  clear HQ h ha hb hlk ho0 hr0
  go_enter Try.func9, Try.ntmps9
  go_wp2_with fail
  clear o1
  generalize (w.alloc (.cells #[.int .i64 3, .int .i64 key, .int .i64 val, .int .i64 hi] 37)).alloc (.cells #[.bool false, .int .i64 0, .int .i64 0, .slice none 0 0] 39) = w0 at *
  refine HLK.out.mono ?_
  rintro e w1 ⟨rfl, hb⟩
  have HB1 := Lib.hid (HB2.out.trans (hb.mono HB2.out.size))
  have HO1 := Lib.hid (HO0.out.below hb HO0.out.lt)
  have HR1 := Lib.hid (HR0.out.below hb HR0.out.lt)
  have hbz := (Below.refl w1.heap.size w1).alloc (Nat.le_refl _) (.cells #[.bool false, .int .i64 0, .int .i64 0, .slice none 0 0] TRT)
  have HQ2 := Lib.hid (Blk.new w1 TRT [.bool false, .int .i64 0, .int .i64 0, .slice none 0 0])
  have HO2 := Lib.hid (HO1.out.below hbz HO1.out.lt)
  have HR2 := Lib.hid (HR1.out.below hbz HR1.out.lt)
  have HB3 := Lib.hid (HB1.out.alloc HB1.out.size (.cells #[.bool false, .int .i64 0, .int .i64 0, .slice none 0 0] TRT))
  have HZ := Lib.hid (And.intro HB1.out.size HR1.out.lt)
  clear hb hbz HLK HB2 HO0 HR0
  generalize hok : (lookL l key).2 = ok_ at *
  generalize hv : (lookL l key).1 = v_ at *
  have HOK := Lib.hid (And.intro hok hv)
  clear hok hv
  have o0 := HO2.out.cell 0
  have o1 := HO2.out.cell 1
  have o3 := HO2.out.cell 3
  have a0 := HQ2.out.cell 0
  have az0 : (w1.alloc (.cells #[.bool false, .int .i64 0, .int .i64 0, .slice none 0 0] TRT)).frozen? ⟨w1.heap.size, 0, none⟩ = false := HQ2.out.free _ rfl
  have a1 := HQ2.out.cell 1
  have az1 : (w1.alloc (.cells #[.bool false, .int .i64 0, .int .i64 0, .slice none 0 0] TRT)).frozen? ⟨w1.heap.size, 1, none⟩ = false := HQ2.out.free _ rfl
  have a2 := HQ2.out.cell 2
  have az2 : (w1.alloc (.cells #[.bool false, .int .i64 0, .int .i64 0, .slice none 0 0] TRT)).frozen? ⟨w1.heap.size, 2, none⟩ = false := HQ2.out.free _ rfl
  have a3 := HQ2.out.cell 3
  have az3 : (w1.alloc (.cells #[.bool false, .int .i64 0, .int .i64 0, .slice none 0 0] TRT)).frozen? ⟨w1.heap.size, 3, none⟩ = false := HQ2.out.free _ rfl
  simp only [List.getElem?_cons_zero, List.getElem?_cons_succ] at o0 o1 o3 a0 a1 a2 a3
  go_wp2_with fail
  have hbq := (Below.refl w1.heap.size w1).alloc (Nat.le_refl _) (.cells #[.bool (!ok_), .int .i64 0, .int .i64 v_, .slice none 0 0] TRT)
  have HQ3 := Lib.hid (Blk.new w1 TRT [.bool (!ok_), .int .i64 0, .int .i64 v_, .slice none 0 0])
  have HO3 := Lib.hid (HO1.out.below hbq HO1.out.lt)
  have HR3 := Lib.hid (HR1.out.below hbq HR1.out.lt)
  have HB4 := Lib.hid (HB1.out.alloc HB1.out.size (.cells #[.bool (!ok_), .int .i64 0, .int .i64 v_, .slice none 0 0] TRT))
  clear hbq o0 o1 o3 a0 a1 a2 a3 az0 az1 az2 az3 HQ2 HO2 HR2 HB3 HO1 HR1 HB1
  generalize w1.alloc (.cells #[.bool (!ok_), .int .i64 0, .int .i64 v_, .slice none 0 0] 39) = w2 at *
  generalize hrb : w.heap.size + 1 = rb_ at *
  have HRB := Lib.hid hrb
  clear hrb
  generalize hqb : w1.heap.size = qb_ at *
  have HQB := Lib.hid hqb
  clear hqb
  go_loopw [9] (fun k wr => ∃ j : Nat, j ≤ l.length ∧ k = .int .i64 j ∧ Below w2.heap.size w2 wr) (fun k _ => l.length - (intOf k).toNat)
  case atStart => exact ⟨0, Nat.zero_le _, rfl, Below.refl _ _⟩
  case round =>
    obtain ⟨j, hj, rfl, hbel⟩ := hrel
    have HBL := Lib.hid hbel
    clear hbel
    by_cases hlt : j < l.length
    · obtain ⟨ad, hA, c0, c1⟩ := pair_at ((HP.out.below HB4.out).below HBL.out) (i := j) (by simpa using hlt)
      subst hA
      have o0 := (HO3.out.below HBL.out HO3.out.lt).cell 0
      have a0 := (HQ3.out.below HBL.out HQ3.out.lt).cell 0
      simp only [List.getElem?_cons_zero] at o0 a0
      generalize (pr ((l.map sp)[j]'(by simpa using hlt))) = p at *
      obtain ⟨pk, pw⟩ := p
      simp only at c0 c1
      go_wp2_with fail
      have hz0 := (Below.refl wr.heap.size wr).alloc (Nat.le_refl _) (.cells #[.bool false, .int .i64 0, .int .i64 0, .slice none 0 0] TRT)
      have c0' := pw_cell_below hz0 c0
      have c1' := pw_cell_below hz0 c1
      have HZ1 := Blk.new wr TRT [.bool false, .int .i64 0, .int .i64 0, .slice none 0 0]
      have d0 := HZ1.cell 0
      have d1 := HZ1.cell 1
      have d2 := HZ1.cell 2
      have d3 := HZ1.cell 3
      have dz0 : (wr.alloc (.cells #[.bool false, .int .i64 0, .int .i64 0, .slice none 0 0] TRT)).frozen? ⟨wr.heap.size, 0, none⟩ = false := HZ1.free _ rfl
      have dz1 : (wr.alloc (.cells #[.bool false, .int .i64 0, .int .i64 0, .slice none 0 0] TRT)).frozen? ⟨wr.heap.size, 1, none⟩ = false := HZ1.free _ rfl
      have dz2 : (wr.alloc (.cells #[.bool false, .int .i64 0, .int .i64 0, .slice none 0 0] TRT)).frozen? ⟨wr.heap.size, 2, none⟩ = false := HZ1.free _ rfl
      have dz3 : (wr.alloc (.cells #[.bool false, .int .i64 0, .int .i64 0, .slice none 0 0] TRT)).frozen? ⟨wr.heap.size, 3, none⟩ = false := HZ1.free _ rfl
      simp only [List.getElem?_cons_zero, List.getElem?_cons_succ] at d0 d1 d2 d3
      clear hz0 HZ1
      go_region
      have hz5 := ((Below.refl wr.heap.size wr).alloc (Nat.le_refl _) (.cells #[.bool true, .int .i64 pk, .int .i64 pw, .slice none 0 0] TRT)).drew
      have HB5 := Lib.hid (HBL.out.trans (hz5.mono HBL.out.size))
      have o0' := pw_cell_below hz5 o0
      have a0' := pw_cell_below hz5 a0
      clear hz5 c0 c1 c0' c1' d0 d1 d2 d3 dz0 dz1 dz2 dz3 o0 a0 HBL
      generalize (wr.alloc (.cells #[.bool true, .int .i64 pk, .int .i64 pw, .slice none 0 0] 39)).drew = w5 at *
      go_wp2_with fail
      go_quiet (fail)
      go_wp2
      go_roundw
      case rel => exact ⟨j + 1, by omega, by go_num, pw_below_drewN HB5.out _⟩
      case measure => simp [intOf]; omega
    · have hje : j = l.length := by omega
      subst hje
      have hcl := ((HP.out.below HB4.out).below HBL.out).cells
      have o0 := (HO3.out.below HBL.out HO3.out.lt).cell 0
      simp only [List.getElem?_cons_zero] at o0
      have HBW := Lib.hid (HB4.out.trans (HBL.out.mono HB4.out.size))
      have HCL := Lib.hid (fun (o : Obj) => And.intro hcl.1 (fun hn : 0 < l.length => by
        obtain ⟨ad, e, hc9⟩ := hcl.2 hn
        exact (⟨ad, e, fun j u hu => pw_cell_below ((Below.refl wr.heap.size wr).alloc (Nat.le_refl _) o) (hc9 j u hu)⟩ : ∃ ad, A = some ad ∧ ∀ j u, (l.flatMap pcells)[j]? = some u → (wr.alloc o).cell? (ad.add j) = some u)))
      clear hcl
      go_wp2_with (at_builtin; refine print_append_spread (W := wr) rfl _ _ TPAs TPA (.agg #[.int .i64 0, .int .i64 0]) 2 16 (by decide) rfl Try.underlying22 pinfo_pair rfl (A := A) (n := l.length) (c := c) (us := l.flatMap pcells) rfl rfl (HCL.out _) (one_pairs l) (by simp only [maxLen]; omega) (by omega) ?_)
      intro v6 w6 ho6 hb6
      have HPW := Lib.hid (PRow.of_own (Go.Proofs.YteeficpjggimcaaW.PrintWords.own_weaken ho6 HBW.out.size))
      have HB6 := Lib.hid (HBW.out.trans (hb6.mono HBW.out.size))
      have hb26 := HBL.out.trans (hb6.mono HBL.out.size)
      have HQ6 := Lib.hid (HQ3.out.below hb26 HQ3.out.lt)
      have HR6 := Lib.hid (HR3.out.below hb26 HR3.out.lt)
      have HO6 := Lib.hid (HO3.out.below hb26 HO3.out.lt)
      have HP6 := Lib.hid (HP.out.below HB6.out)
      have o1 := HO6.out.cell 0
      have o2 := HO6.out.cell 1
      have o3 := HO6.out.cell 2
      simp only [List.getElem?_cons_zero, List.getElem?_cons_succ] at o1 o2 o3
      clear ho6 hb6 hb26 o0 HBW HBL HCL HB4 HQ3 HR3 HO3
      cases ok_ with
      | true =>
        have hne : qb_ ≠ rb_ := by have := HRB.out; have := HQB.out; have := HZ.out.1; have := HZ.out.2; omega
        have hne2 := hne.symm
        go_wp2_with fail
        have hdr := (Below.refl w6.heap.size w6).drew
        have HQ7 := Lib.hid (HQ6.out.below hdr HQ6.out.lt)
        have HR7 := Lib.hid (HR6.out.below hdr HR6.out.lt)
        clear hdr
        have q0 := HQ6.out.cell 0
        have q0' := HQ7.out.cell 0
        have r0 := HR6.out.cell 0
        have r0' := HR7.out.cell 0
        have rz0 : w6.frozen? ⟨rb_, 0, none⟩ = false := HR6.out.free _ rfl
        have rz0' : w6.drew.frozen? ⟨rb_, 0, none⟩ = false := HR7.out.free _ rfl
        have q1 := HQ6.out.cell 1
        have q1' := HQ7.out.cell 1
        have r1 := HR6.out.cell 1
        have r1' := HR7.out.cell 1
        have rz1 : w6.frozen? ⟨rb_, 1, none⟩ = false := HR6.out.free _ rfl
        have rz1' : w6.drew.frozen? ⟨rb_, 1, none⟩ = false := HR7.out.free _ rfl
        have q2 := HQ6.out.cell 2
        have q2' := HQ7.out.cell 2
        have r2 := HR6.out.cell 2
        have r2' := HR7.out.cell 2
        have rz2 : w6.frozen? ⟨rb_, 2, none⟩ = false := HR6.out.free _ rfl
        have rz2' : w6.drew.frozen? ⟨rb_, 2, none⟩ = false := HR7.out.free _ rfl
        have q3 := HQ6.out.cell 3
        have q3' := HQ7.out.cell 3
        have r3 := HR6.out.cell 3
        have r3' := HR7.out.cell 3
        have rz3 : w6.frozen? ⟨rb_, 3, none⟩ = false := HR6.out.free _ rfl
        have rz3' : w6.drew.frozen? ⟨rb_, 3, none⟩ = false := HR7.out.free _ rfl
        simp only [List.getElem?_cons_zero, List.getElem?_cons_succ] at q0 q1 q2 q3 q0' q1' q2' q3' r0 r1 r2 r3 r0' r1' r2' r3'
        go_region
        go_wp2
        have hfin : Fr w6 _ (fun k => k = rb_) := (((((Fr.refl w6 (fun k => k = rb_)).setCell ⟨rb_, 0, none⟩ (.bool (!true)) (fun _ => rfl)).setCell ⟨rb_, 1, none⟩ (.int .i64 0) (fun _ => rfl)).setCell ⟨rb_, 2, none⟩ (.int .i64 v_) (fun _ => rfl)).setCell ⟨rb_, 3, none⟩ (.slice none 0 0) (fun _ => rfl)).drew
        have hblk : Blk _ rb_ TRT [.bool (!true), .int .i64 0, .int .i64 v_, .slice none 0 0] := ((((HR6.out.set 0 (.bool (!true))).set 1 (.int .i64 0)).set 2 (.int .i64 v_)).set 3 (.slice none 0 0)).drew
        refine bodyPost_ret (results_tc rfl _ _ rb_ TRT _ (0, 0) _ rfl hblk Try.underlying39 rfl rtsize) rfl ?_
        exact HQ'.out _ _ ⟨_, rfl, (by simp only [if_true, Bool.false_eq_true, if_false]; exact HPW.out.fr hfin (fun k hk => ⟨TRT, _, hk ▸ HR6.out, by decide⟩)), HB6.out.trans (hfin.below (by exact HB6.out.size) (fun k hk => by have := HRB.out; omega))⟩
      | false =>
        have HWI := Lib.hid (ref06_with w6 A c l key val false (by omega) HP6.out hc)
        rw [List.length_map] at HWI
        clear HPW
        go_wp2_with fail
        refine HWI.out.mono ?_
        rintro e w7 ⟨v7, rfl, hrow, hb7⟩
        have HPW := Lib.hid (hrow.lower HB6.out.size)
        have HB7 := Lib.hid (HB6.out.trans (hb7.mono HB6.out.size))
        have HQ6_ := Lib.hid (HQ6.out.below hb7 HQ6.out.lt)
        have HR6_ := Lib.hid (HR6.out.below hb7 HR6.out.lt)
        have HO6_ := Lib.hid (HO6.out.below hb7 HO6.out.lt)
        clear hrow hb7 o1 o2 o3 HWI HQ6 HR6 HO6
        have HQ6 := HQ6_
        have HR6 := HR6_
        have HB6 := HB7
        have o1 := HO6_.out.cell 0
        simp only [List.getElem?_cons_zero] at o1
        clear HQ6_ HR6_ HB7
        have hne : qb_ ≠ rb_ := by have := HRB.out; have := HQB.out; have := HZ.out.1; have := HZ.out.2; omega
        have hne2 := hne.symm
        go_wp2_with fail
        have hdr := (Below.refl w7.heap.size w7).drew
        have HQ7 := Lib.hid (HQ6.out.below hdr HQ6.out.lt)
        have HR7 := Lib.hid (HR6.out.below hdr HR6.out.lt)
        clear hdr
        have q0 := HQ6.out.cell 0
        have q0' := HQ7.out.cell 0
        have r0 := HR6.out.cell 0
        have r0' := HR7.out.cell 0
        have rz0 : w7.frozen? ⟨rb_, 0, none⟩ = false := HR6.out.free _ rfl
        have rz0' : w7.drew.frozen? ⟨rb_, 0, none⟩ = false := HR7.out.free _ rfl
        have q1 := HQ6.out.cell 1
        have q1' := HQ7.out.cell 1
        have r1 := HR6.out.cell 1
        have r1' := HR7.out.cell 1
        have rz1 : w7.frozen? ⟨rb_, 1, none⟩ = false := HR6.out.free _ rfl
        have rz1' : w7.drew.frozen? ⟨rb_, 1, none⟩ = false := HR7.out.free _ rfl
        have q2 := HQ6.out.cell 2
        have q2' := HQ7.out.cell 2
        have r2 := HR6.out.cell 2
        have r2' := HR7.out.cell 2
        have rz2 : w7.frozen? ⟨rb_, 2, none⟩ = false := HR6.out.free _ rfl
        have rz2' : w7.drew.frozen? ⟨rb_, 2, none⟩ = false := HR7.out.free _ rfl
        have q3 := HQ6.out.cell 3
        have q3' := HQ7.out.cell 3
        have r3 := HR6.out.cell 3
        have r3' := HR7.out.cell 3
        have rz3 : w7.frozen? ⟨rb_, 3, none⟩ = false := HR6.out.free _ rfl
        have rz3' : w7.drew.frozen? ⟨rb_, 3, none⟩ = false := HR7.out.free _ rfl
        simp only [List.getElem?_cons_zero, List.getElem?_cons_succ] at q0 q1 q2 q3 q0' q1' q2' q3' r0 r1 r2 r3 r0' r1' r2' r3'
        go_region
        go_wp2
        have hfin : Fr w7 _ (fun k => k = rb_) := (((((Fr.refl w7 (fun k => k = rb_)).setCell ⟨rb_, 0, none⟩ (.bool (!false)) (fun _ => rfl)).setCell ⟨rb_, 1, none⟩ (.int .i64 0) (fun _ => rfl)).setCell ⟨rb_, 2, none⟩ (.int .i64 v_) (fun _ => rfl)).setCell ⟨rb_, 3, none⟩ (.slice none 0 0) (fun _ => rfl)).drew
        have hblk : Blk _ rb_ TRT [.bool (!false), .int .i64 0, .int .i64 v_, .slice none 0 0] := ((((HR6.out.set 0 (.bool (!false))).set 1 (.int .i64 0)).set 2 (.int .i64 v_)).set 3 (.slice none 0 0)).drew
        refine bodyPost_ret (results_tc rfl _ _ rb_ TRT _ (0, 0) _ rfl hblk Try.underlying39 rfl rtsize) rfl ?_
        exact HQ'.out _ _ ⟨_, rfl, (by simp only [if_true, Bool.false_eq_true, if_false]; exact HPW.out.fr hfin (fun k hk => ⟨TRT, _, hk ▸ HR6.out, by decide⟩)), HB6.out.trans (hfin.below (by exact HB6.out.size) (fun k hk => by have := HRB.out; omega))⟩
set_option maxHeartbeats 4000000 in
set_option maxRecDepth 100000 in
theorem step06_4 (w : World) (A : Option Addr) (c : Nat) (l : List (Int × Int)) (key val hi : Int) (hl : l.length ≤ 1000000) (h : PRd w A l) (hc : l.length ≤ c) :
    Calls Try.prog 9 #[.slice A l.length c, .agg #[.int .i64 4, .int .i64 key, .int .i64 val, .int .i64 hi]] w fun e w' => ∃ nv, e = .returned (.tuple #[nv, .agg #[.bool (lookL l key).2, .int .i64 0, .int .i64 (lookL l key).1, .slice none 0 0]]) ∧ PRow w' w.heap.size nv (withL key 0 l true) ∧ Below w.heap.size w w' := by
  refine calls_hide fun Q HQ => ?_
  have HQ' := Lib.hid HQ
  have ha := (Below.refl w.heap.size w).alloc (Nat.le_refl _) (.cells #[.int .i64 4, .int .i64 key, .int .i64 val, .int .i64 hi] TOP)
  have hb := ha.alloc ha.size (.cells #[.bool false, .int .i64 0, .int .i64 0, .slice none 0 0] TRT)
  have hlk := ref06_look ((w.alloc (.cells #[.int .i64 4, .int .i64 key, .int .i64 val, .int .i64 hi] TOP)).alloc (.cells #[.bool false, .int .i64 0, .int .i64 0, .slice none 0 0] TRT)) A c l key (by omega) (h.below hb) hc
  rw [List.length_map] at hlk
  have HLK := Lib.hid hlk
  have HP := Lib.hid h
  have HB2 := Lib.hid hb
  have ho0 := (Blk.new w TOP [.int .i64 4, .int .i64 key, .int .i64 val, .int .i64 hi]).alloc (.cells #[.bool false, .int .i64 0, .int .i64 0, .slice none 0 0] TRT)
  have hr0 := Blk.new (w.alloc (.cells #[.int .i64 4, .int .i64 key, .int .i64 val, .int .i64 hi] TOP)) TRT [.bool false, .int .i64 0, .int .i64 0, .slice none 0 0]
  rw [World.size_alloc] at hr0
  have HO0 := Lib.hid ho0
  have HR0 := Lib.hid hr0
  have o1 := HO0.out.cell 1
  simp only [List.getElem?_cons_zero, List.getElem?_cons_succ] at o1
  clear HQ h ha hb hlk ho0 hr0
  go_enter Try.func9, Try.ntmps9
  go_wp2_with fail
  clear o1
  generalize (w.alloc (.cells #[.int .i64 4, .int .i64 key, .int .i64 val, .int .i64 hi] 37)).alloc (.cells #[.bool false, .int .i64 0, .int .i64 0, .slice none 0 0] 39) = w0 at *
  refine HLK.out.mono ?_
  rintro e w1 ⟨rfl, hb⟩
  have HB1 := Lib.hid (HB2.out.trans (hb.mono HB2.out.size))
  have HO1 := Lib.hid (HO0.out.below hb HO0.out.lt)
  have HR1 := Lib.hid (HR0.out.below hb HR0.out.lt)
  have hbz := (Below.refl w1.heap.size w1).alloc (Nat.le_refl _) (.cells #[.bool false, .int .i64 0, .int .i64 0, .slice none 0 0] TRT)
  have HQ2 := Lib.hid (Blk.new w1 TRT [.bool false, .int .i64 0, .int .i64 0, .slice none 0 0])
  have HO2 := Lib.hid (HO1.out.below hbz HO1.out.lt)
  have HR2 := Lib.hid (HR1.out.below hbz HR1.out.lt)
  have HB3 := Lib.hid (HB1.out.alloc HB1.out.size (.cells #[.bool false, .int .i64 0, .int .i64 0, .slice none 0 0] TRT))
  have HZ := Lib.hid (And.intro HB1.out.size HR1.out.lt)
  clear hb hbz HLK HB2 HO0 HR0
  generalize hok : (lookL l key).2 = ok_ at *
  generalize hv : (lookL l key).1 = v_ at *
  have HOK := Lib.hid (And.intro hok hv)
  clear hok hv
  have o0 := HO2.out.cell 0
  have o1 := HO2.out.cell 1
  have o3 := HO2.out.cell 3
  have a0 := HQ2.out.cell 0
  have az0 : (w1.alloc (.cells #[.bool false, .int .i64 0, .int .i64 0, .slice none 0 0] TRT)).frozen? ⟨w1.heap.size, 0, none⟩ = false := HQ2.out.free _ rfl
  have a1 := HQ2.out.cell 1
  have az1 : (w1.alloc (.cells #[.bool false, .int .i64 0, .int .i64 0, .slice none 0 0] TRT)).frozen? ⟨w1.heap.size, 1, none⟩ = false := HQ2.out.free _ rfl
  have a2 := HQ2.out.cell 2
  have az2 : (w1.alloc (.cells #[.bool false, .int .i64 0, .int .i64 0, .slice none 0 0] TRT)).frozen? ⟨w1.heap.size, 2, none⟩ = false := HQ2.out.free _ rfl
  have a3 := HQ2.out.cell 3
  have az3 : (w1.alloc (.cells #[.bool false, .int .i64 0, .int .i64 0, .slice none 0 0] TRT)).frozen? ⟨w1.heap.size, 3, none⟩ = false := HQ2.out.free _ rfl
  simp only [List.getElem?_cons_zero, List.getElem?_cons_succ] at o0 o1 o3 a0 a1 a2 a3
  go_wp2_with fail
  have hbq := (Below.refl w1.heap.size w1).alloc (Nat.le_refl _) (.cells #[.bool ok_, .int .i64 0, .int .i64 v_, .slice none 0 0] TRT)
  have HQ3 := Lib.hid (Blk.new w1 TRT [.bool ok_, .int .i64 0, .int .i64 v_, .slice none 0 0])
  have HO3 := Lib.hid (HO1.out.below hbq HO1.out.lt)
  have HR3 := Lib.hid (HR1.out.below hbq HR1.out.lt)
  have HB4 := Lib.hid (HB1.out.alloc HB1.out.size (.cells #[.bool ok_, .int .i64 0, .int .i64 v_, .slice none 0 0] TRT))
  clear hbq o0 o1 o3 a0 a1 a2 a3 az0 az1 az2 az3 HQ2 HO2 HR2 HB3 HO1 HR1 HB1
  generalize w1.alloc (.cells #[.bool ok_, .int .i64 0, .int .i64 v_, .slice none 0 0] 39) = w2 at *
  generalize hrb : w.heap.size + 1 = rb_ at *
  have HRB := Lib.hid hrb
  clear hrb
  generalize hqb : w1.heap.size = qb_ at *
  have HQB := Lib.hid hqb
  clear hqb
  go_loopw [9] (fun k wr => ∃ j : Nat, j ≤ l.length ∧ k = .int .i64 j ∧ Below w2.heap.size w2 wr) (fun k _ => l.length - (intOf k).toNat)
  case atStart => exact ⟨0, Nat.zero_le _, rfl, Below.refl _ _⟩
  case round =>
    obtain ⟨j, hj, rfl, hbel⟩ := hrel
    have HBL := Lib.hid hbel
    clear hbel
    by_cases hlt : j < l.length
    · obtain ⟨ad, hA, c0, c1⟩ := pair_at ((HP.out.below HB4.out).below HBL.out) (i := j) (by simpa using hlt)
      subst hA
      have o0 := (HO3.out.below HBL.out HO3.out.lt).cell 0
      have a0 := (HQ3.out.below HBL.out HQ3.out.lt).cell 0
      simp only [List.getElem?_cons_zero] at o0 a0
      generalize (pr ((l.map sp)[j]'(by simpa using hlt))) = p at *
      obtain ⟨pk, pw⟩ := p
      simp only at c0 c1
      go_wp2_with fail
      have hz0 := (Below.refl wr.heap.size wr).alloc (Nat.le_refl _) (.cells #[.bool false, .int .i64 0, .int .i64 0, .slice none 0 0] TRT)
      have c0' := pw_cell_below hz0 c0
      have c1' := pw_cell_below hz0 c1
      have HZ1 := Blk.new wr TRT [.bool false, .int .i64 0, .int .i64 0, .slice none 0 0]
      have d0 := HZ1.cell 0
      have d1 := HZ1.cell 1
      have d2 := HZ1.cell 2
      have d3 := HZ1.cell 3
      have dz0 : (wr.alloc (.cells #[.bool false, .int .i64 0, .int .i64 0, .slice none 0 0] TRT)).frozen? ⟨wr.heap.size, 0, none⟩ = false := HZ1.free _ rfl
      have dz1 : (wr.alloc (.cells #[.bool false, .int .i64 0, .int .i64 0, .slice none 0 0] TRT)).frozen? ⟨wr.heap.size, 1, none⟩ = false := HZ1.free _ rfl
      have dz2 : (wr.alloc (.cells #[.bool false, .int .i64 0, .int .i64 0, .slice none 0 0] TRT)).frozen? ⟨wr.heap.size, 2, none⟩ = false := HZ1.free _ rfl
      have dz3 : (wr.alloc (.cells #[.bool false, .int .i64 0, .int .i64 0, .slice none 0 0] TRT)).frozen? ⟨wr.heap.size, 3, none⟩ = false := HZ1.free _ rfl
      simp only [List.getElem?_cons_zero, List.getElem?_cons_succ] at d0 d1 d2 d3
      clear hz0 HZ1
      go_region
      have hz5 := ((Below.refl wr.heap.size wr).alloc (Nat.le_refl _) (.cells #[.bool true, .int .i64 pk, .int .i64 pw, .slice none 0 0] TRT)).drew
      have HB5 := Lib.hid (HBL.out.trans (hz5.mono HBL.out.size))
      have o0' := pw_cell_below hz5 o0
      have a0' := pw_cell_below hz5 a0
      clear hz5 c0 c1 c0' c1' d0 d1 d2 d3 dz0 dz1 dz2 dz3 o0 a0 HBL
      generalize (wr.alloc (.cells #[.bool true, .int .i64 pk, .int .i64 pw, .slice none 0 0] 39)).drew = w5 at *
      go_wp2_with fail
      go_quiet (fail)
      go_wp2
      go_roundw
      case rel => exact ⟨j + 1, by omega, by go_num, pw_below_drewN HB5.out _⟩
      case measure => simp [intOf]; omega
    · have hje : j = l.length := by omega
      subst hje
      have hcl := ((HP.out.below HB4.out).below HBL.out).cells
      have o0 := (HO3.out.below HBL.out HO3.out.lt).cell 0
      simp only [List.getElem?_cons_zero] at o0
      have HBW := Lib.hid (HB4.out.trans (HBL.out.mono HB4.out.size))
      have HCL := Lib.hid (fun (o : Obj) => And.intro hcl.1 (fun hn : 0 < l.length => by
        obtain ⟨ad, e, hc9⟩ := hcl.2 hn
        exact (⟨ad, e, fun j u hu => pw_cell_below ((Below.refl wr.heap.size wr).alloc (Nat.le_refl _) o) (hc9 j u hu)⟩ : ∃ ad, A = some ad ∧ ∀ j u, (l.flatMap pcells)[j]? = some u → (wr.alloc o).cell? (ad.add j) = some u)))
      clear hcl
      go_wp2_with (at_builtin; refine print_append_spread (W := wr) rfl _ _ TPAs TPA (.agg #[.int .i64 0, .int .i64 0]) 2 16 (by decide) rfl Try.underlying22 pinfo_pair rfl (A := A) (n := l.length) (c := c) (us := l.flatMap pcells) rfl rfl (HCL.out _) (one_pairs l) (by simp only [maxLen]; omega) (by omega) ?_)
      intro v6 w6 ho6 hb6
      have HPW := Lib.hid (PRow.of_own (Go.Proofs.YteeficpjggimcaaW.PrintWords.own_weaken ho6 HBW.out.size))
      have HB6 := Lib.hid (HBW.out.trans (hb6.mono HBW.out.size))
      have hb26 := HBL.out.trans (hb6.mono HBL.out.size)
      have HQ6 := Lib.hid (HQ3.out.below hb26 HQ3.out.lt)
      have HR6 := Lib.hid (HR3.out.below hb26 HR3.out.lt)
      have HO6 := Lib.hid (HO3.out.below hb26 HO3.out.lt)
      have HP6 := Lib.hid (HP.out.below HB6.out)
      have o1 := HO6.out.cell 0
      have o2 := HO6.out.cell 1
      have o3 := HO6.out.cell 2
      simp only [List.getElem?_cons_zero, List.getElem?_cons_succ] at o1 o2 o3
      clear ho6 hb6 hb26 o0 HBW HBL HCL HB4 HQ3 HR3 HO3
      have HWI := Lib.hid (ref06_with w6 A c l key 0 true (by omega) HP6.out hc)
      rw [List.length_map] at HWI
      clear HPW
      go_wp2_with fail
      refine HWI.out.mono ?_
      rintro e w7 ⟨v7, rfl, hrow, hb7⟩
      have HPW := Lib.hid (hrow.lower HB6.out.size)
      have HB7 := Lib.hid (HB6.out.trans (hb7.mono HB6.out.size))
      have HQ6_ := Lib.hid (HQ6.out.below hb7 HQ6.out.lt)
      have HR6_ := Lib.hid (HR6.out.below hb7 HR6.out.lt)
      have HO6_ := Lib.hid (HO6.out.below hb7 HO6.out.lt)
      clear hrow hb7 o1 o2 o3 HWI HQ6 HR6 HO6
      have HQ6 := HQ6_
      have HR6 := HR6_
      have HB6 := HB7
      have o1 := HO6_.out.cell 0
      simp only [List.getElem?_cons_zero] at o1
      clear HQ6_ HR6_ HB7
      have hne : qb_ ≠ rb_ := by have := HRB.out; have := HQB.out; have := HZ.out.1; have := HZ.out.2; omega
      have hne2 := hne.symm
      go_wp2_with fail
      have hdr := (Below.refl w7.heap.size w7).drew
      have HQ7 := Lib.hid (HQ6.out.below hdr HQ6.out.lt)
      have HR7 := Lib.hid (HR6.out.below hdr HR6.out.lt)
      clear hdr
      have q0 := HQ6.out.cell 0
      have q0' := HQ7.out.cell 0
      have r0 := HR6.out.cell 0
      have r0' := HR7.out.cell 0
      have rz0 : w7.frozen? ⟨rb_, 0, none⟩ = false := HR6.out.free _ rfl
      have rz0' : w7.drew.frozen? ⟨rb_, 0, none⟩ = false := HR7.out.free _ rfl
      have q1 := HQ6.out.cell 1
      have q1' := HQ7.out.cell 1
      have r1 := HR6.out.cell 1
      have r1' := HR7.out.cell 1
      have rz1 : w7.frozen? ⟨rb_, 1, none⟩ = false := HR6.out.free _ rfl
      have rz1' : w7.drew.frozen? ⟨rb_, 1, none⟩ = false := HR7.out.free _ rfl
      have q2 := HQ6.out.cell 2
      have q2' := HQ7.out.cell 2
      have r2 := HR6.out.cell 2
      have r2' := HR7.out.cell 2
      have rz2 : w7.frozen? ⟨rb_, 2, none⟩ = false := HR6.out.free _ rfl
      have rz2' : w7.drew.frozen? ⟨rb_, 2, none⟩ = false := HR7.out.free _ rfl
      have q3 := HQ6.out.cell 3
      have q3' := HQ7.out.cell 3
      have r3 := HR6.out.cell 3
      have r3' := HR7.out.cell 3
      have rz3 : w7.frozen? ⟨rb_, 3, none⟩ = false := HR6.out.free _ rfl
      have rz3' : w7.drew.frozen? ⟨rb_, 3, none⟩ = false := HR7.out.free _ rfl
      simp only [List.getElem?_cons_zero, List.getElem?_cons_succ] at q0 q1 q2 q3 q0' q1' q2' q3' r0 r1 r2 r3 r0' r1' r2' r3'
      go_region
      go_wp2
      have hfin : Fr w7 _ (fun k => k = rb_) := (((((Fr.refl w7 (fun k => k = rb_)).setCell ⟨rb_, 0, none⟩ (.bool ok_) (fun _ => rfl)).setCell ⟨rb_, 1, none⟩ (.int .i64 0) (fun _ => rfl)).setCell ⟨rb_, 2, none⟩ (.int .i64 v_) (fun _ => rfl)).setCell ⟨rb_, 3, none⟩ (.slice none 0 0) (fun _ => rfl)).drew
      have hblk : Blk _ rb_ TRT [.bool ok_, .int .i64 0, .int .i64 v_, .slice none 0 0] := ((((HR6.out.set 0 (.bool ok_)).set 1 (.int .i64 0)).set 2 (.int .i64 v_)).set 3 (.slice none 0 0)).drew
      refine bodyPost_ret (results_tc rfl _ _ rb_ TRT _ (0, 0) _ rfl hblk Try.underlying39 rfl rtsize) rfl ?_
      exact HQ'.out _ _ ⟨_, rfl, HPW.out.fr hfin (fun k hk => ⟨TRT, _, hk ▸ HR6.out, by decide⟩), HB6.out.trans (hfin.below (by exact HB6.out.size) (fun k hk => by have := HRB.out; omega))⟩
set_option maxHeartbeats 4000000 in
set_option maxRecDepth 100000 in
theorem step06_9 (w : World) (A : Option Addr) (c : Nat) (l : List (Int × Int)) (key val hi : Int) (hl : l.length ≤ 1000000) (h : PRd w A l) (hc : l.length ≤ c) :
    Calls Try.prog 9 #[.slice A l.length c, .agg #[.int .i64 9, .int .i64 key, .int .i64 val, .int .i64 hi]] w fun e w' => ∃ nv pv_, e = .returned (.tuple #[nv, .agg #[.bool true, .int .i64 0, .int .i64 0, pv_]]) ∧ PRow w' w.heap.size nv l ∧ PRow w' w.heap.size pv_ (insL key hi l) ∧ Below w.heap.size w w' := by
  refine calls_hide fun Q HQ => ?_
  have HQ' := Lib.hid HQ
  have ha := (Below.refl w.heap.size w).alloc (Nat.le_refl _) (.cells #[.int .i64 9, .int .i64 key, .int .i64 val, .int .i64 hi] TOP)
  have hb := ha.alloc ha.size (.cells #[.bool false, .int .i64 0, .int .i64 0, .slice none 0 0] TRT)
  have hlk := ref06_look ((w.alloc (.cells #[.int .i64 9, .int .i64 key, .int .i64 val, .int .i64 hi] TOP)).alloc (.cells #[.bool false, .int .i64 0, .int .i64 0, .slice none 0 0] TRT)) A c l key (by omega) (h.below hb) hc
  rw [List.length_map] at hlk
  have HLK := Lib.hid hlk
  have HP := Lib.hid h
  have HB2 := Lib.hid hb
  have ho0 := (Blk.new w TOP [.int .i64 9, .int .i64 key, .int .i64 val, .int .i64 hi]).alloc (.cells #[.bool false, .int .i64 0, .int .i64 0, .slice none 0 0] TRT)
  have hr0 := Blk.new (w.alloc (.cells #[.int .i64 9, .int .i64 key, .int .i64 val, .int .i64 hi] TOP)) TRT [.bool false, .int .i64 0, .int .i64 0, .slice none 0 0]
  rw [World.size_alloc] at hr0
  have HO0 := Lib.hid ho0
  have HR0 := Lib.hid hr0
  have o1 := HO0.out.cell 1
  simp only [List.getElem?_cons_zero, List.getElem?_cons_succ] at o1
  clear HQ h ha hb hlk ho0 hr0
  go_enter Try.func9, Try.ntmps9
  go_wp2_with fail
  clear o1
  generalize (w.alloc (.cells #[.int .i64 9, .int .i64 key, .int .i64 val, .int .i64 hi] 37)).alloc (.cells #[.bool false, .int .i64 0, .int .i64 0, .slice none 0 0] 39) = w0 at *
  refine HLK.out.mono ?_
  rintro e w1 ⟨rfl, hb⟩
  have HB1 := Lib.hid (HB2.out.trans (hb.mono HB2.out.size))
  have HO1 := Lib.hid (HO0.out.below hb HO0.out.lt)
  have HR1 := Lib.hid (HR0.out.below hb HR0.out.lt)
  have hbz := (Below.refl w1.heap.size w1).alloc (Nat.le_refl _) (.cells #[.bool false, .int .i64 0, .int .i64 0, .slice none 0 0] TRT)
  have HQ2 := Lib.hid (Blk.new w1 TRT [.bool false, .int .i64 0, .int .i64 0, .slice none 0 0])
  have HO2 := Lib.hid (HO1.out.below hbz HO1.out.lt)
  have HR2 := Lib.hid (HR1.out.below hbz HR1.out.lt)
  have HB3 := Lib.hid (HB1.out.alloc HB1.out.size (.cells #[.bool false, .int .i64 0, .int .i64 0, .slice none 0 0] TRT))
  have HZ := Lib.hid (And.intro HB1.out.size HR1.out.lt)
  have hin := ref06_inside (w1.alloc (.cells #[.bool false, .int .i64 0, .int .i64 0, .slice none 0 0] TRT)) A c l key hi (by omega) ((HP.out.below HB1.out).below hbz) hc
  rw [List.length_map] at hin
  have HIN := Lib.hid hin
  clear hin hb hbz HLK HB2 HO0 HR0
  generalize (lookL l key).2 = ok_ at *
  generalize (lookL l key).1 = v_ at *
  have o0 := HO2.out.cell 0
  have o1 := HO2.out.cell 1
  have o3 := HO2.out.cell 3
  simp only [List.getElem?_cons_zero, List.getElem?_cons_succ] at o0 o1 o3
  go_wp2_with fail
  clear o0 o1 o3
  generalize w1.alloc (.cells #[.bool false, .int .i64 0, .int .i64 0, .slice none 0 0] 39) = wz_ at *
  refine HIN.out.mono ?_
  rintro e wi ⟨pv_, rfl, hrow, hbi⟩
  obtain ⟨A4, c5, e4, _, _⟩ := hrow.rd
  subst e4
  generalize ((insL key hi l).map sp).length = c4 at *
  have HQi := Lib.hid (HQ2.out.below hbi HQ2.out.lt)
  have HOi := Lib.hid (HO2.out.below hbi HO2.out.lt)
  have HRi := Lib.hid (HR2.out.below hbi HR2.out.lt)
  have HBi := Lib.hid (HB3.out.trans (hbi.mono HB3.out.size))
  have HPi := Lib.hid (hrow.lower HB3.out.size)
  clear hrow hbi HIN HQ2 HO2 HR2 HB3 HO1 HR1 HB1
  have a0 := HQi.out.cell 0
  have az0 : wi.frozen? ⟨w1.heap.size, 0, none⟩ = false := HQi.out.free _ rfl
  have a1 := HQi.out.cell 1
  have az1 : wi.frozen? ⟨w1.heap.size, 1, none⟩ = false := HQi.out.free _ rfl
  have a2 := HQi.out.cell 2
  have az2 : wi.frozen? ⟨w1.heap.size, 2, none⟩ = false := HQi.out.free _ rfl
  have a3 := HQi.out.cell 3
  have az3 : wi.frozen? ⟨w1.heap.size, 3, none⟩ = false := HQi.out.free _ rfl
  simp only [List.getElem?_cons_zero, List.getElem?_cons_succ] at a0 a1 a2 a3
  go_wp2_with fail
  have hfq : Fr wi ((((wi.setCell ⟨w1.heap.size, 0, none⟩ (.bool true)).setCell ⟨w1.heap.size, 1, none⟩ (.int .i64 0)).setCell ⟨w1.heap.size, 2, none⟩ (.int .i64 0)).setCell ⟨w1.heap.size, 3, none⟩ (.slice A4 c4 c5)) (fun k => k = w1.heap.size) := ((((Fr.refl wi (fun k => k = w1.heap.size)).setCell ⟨w1.heap.size, 0, none⟩ (.bool true) (fun _ => rfl)).setCell ⟨w1.heap.size, 1, none⟩ (.int .i64 0) (fun _ => rfl)).setCell ⟨w1.heap.size, 2, none⟩ (.int .i64 0) (fun _ => rfl)).setCell ⟨w1.heap.size, 3, none⟩ (.slice A4 c4 c5) (fun _ => rfl)
  have hq3 : Blk _ w1.heap.size TRT [.bool true, .int .i64 0, .int .i64 0, .slice A4 c4 c5] := (((HQi.out.set 0 (.bool true)).set 1 (.int .i64 0)).set 2 (.int .i64 0)).set 3 (.slice A4 c4 c5)
  have HQ3 := Lib.hid hq3
  have HO3 := Lib.hid (hfq.blk HOi.out (fun e => by have := (HOi.out.inj (e ▸ HQi.out)).1; exact absurd this (by decide)))
  have HR3 := Lib.hid (hfq.blk HRi.out (fun e => by have := HZ.out.2; omega))
  have HB4 := Lib.hid (HBi.out.trans (hfq.below HBi.out.size (fun k hk => by rw [hk]; exact HZ.out.1)))
  have HPI := Lib.hid (HPi.out.fr hfq (fun k hk => ⟨TRT, _, hk ▸ HQi.out, by decide⟩))
  clear hfq hq3 a0 a1 a2 a3 az0 az1 az2 az3 HQi HOi HRi HBi HPi
  generalize (((wi.setCell ⟨w1.heap.size, 0, none⟩ (.bool true)).setCell ⟨w1.heap.size, 1, none⟩ (.int .i64 0)).setCell ⟨w1.heap.size, 2, none⟩ (.int .i64 0)).setCell ⟨w1.heap.size, 3, none⟩ (.slice A4 c4 c5) = w2 at *
  generalize hrb : w.heap.size + 1 = rb_ at *
  have HRB := Lib.hid hrb
  clear hrb
  generalize hqb : w1.heap.size = qb_ at *
  have HQB := Lib.hid hqb
  clear hqb
  go_loopw [9] (fun k wr => ∃ j : Nat, j ≤ l.length ∧ k = .int .i64 j ∧ Below w2.heap.size w2 wr) (fun k _ => l.length - (intOf k).toNat)
  case atStart => exact ⟨0, Nat.zero_le _, rfl, Below.refl _ _⟩
  case round =>
    obtain ⟨j, hj, rfl, hbel⟩ := hrel
    have HBL := Lib.hid hbel
    clear hbel
    by_cases hlt : j < l.length
    · obtain ⟨ad, hA, c0, c1⟩ := pair_at ((HP.out.below HB4.out).below HBL.out) (i := j) (by simpa using hlt)
      subst hA
      have o0 := (HO3.out.below HBL.out HO3.out.lt).cell 0
      have a0 := (HQ3.out.below HBL.out HQ3.out.lt).cell 0
      simp only [List.getElem?_cons_zero] at o0 a0
      generalize (pr ((l.map sp)[j]'(by simpa using hlt))) = p at *
      obtain ⟨pk, pw⟩ := p
      simp only at c0 c1
      go_wp2_with fail
      have hz0 := (Below.refl wr.heap.size wr).alloc (Nat.le_refl _) (.cells #[.bool false, .int .i64 0, .int .i64 0, .slice none 0 0] TRT)
      have c0' := pw_cell_below hz0 c0
      have c1' := pw_cell_below hz0 c1
      have HZ1 := Blk.new wr TRT [.bool false, .int .i64 0, .int .i64 0, .slice none 0 0]
      have d0 := HZ1.cell 0
      have d1 := HZ1.cell 1
      have d2 := HZ1.cell 2
      have d3 := HZ1.cell 3
      have dz0 : (wr.alloc (.cells #[.bool false, .int .i64 0, .int .i64 0, .slice none 0 0] TRT)).frozen? ⟨wr.heap.size, 0, none⟩ = false := HZ1.free _ rfl
      have dz1 : (wr.alloc (.cells #[.bool false, .int .i64 0, .int .i64 0, .slice none 0 0] TRT)).frozen? ⟨wr.heap.size, 1, none⟩ = false := HZ1.free _ rfl
      have dz2 : (wr.alloc (.cells #[.bool false, .int .i64 0, .int .i64 0, .slice none 0 0] TRT)).frozen? ⟨wr.heap.size, 2, none⟩ = false := HZ1.free _ rfl
      have dz3 : (wr.alloc (.cells #[.bool false, .int .i64 0, .int .i64 0, .slice none 0 0] TRT)).frozen? ⟨wr.heap.size, 3, none⟩ = false := HZ1.free _ rfl
      simp only [List.getElem?_cons_zero, List.getElem?_cons_succ] at d0 d1 d2 d3
      clear hz0 HZ1
      go_region
      have hz5 := ((Below.refl wr.heap.size wr).alloc (Nat.le_refl _) (.cells #[.bool true, .int .i64 pk, .int .i64 pw, .slice none 0 0] TRT)).drew
      have HB5 := Lib.hid (HBL.out.trans (hz5.mono HBL.out.size))
      have o0' := pw_cell_below hz5 o0
      have a0' := pw_cell_below hz5 a0
      clear hz5 c0 c1 c0' c1' d0 d1 d2 d3 dz0 dz1 dz2 dz3 o0 a0 HBL
      generalize (wr.alloc (.cells #[.bool true, .int .i64 pk, .int .i64 pw, .slice none 0 0] 39)).drew = w5 at *
      go_wp2_with fail
      go_quiet (fail)
      go_wp2
      go_roundw
      case rel => exact ⟨j + 1, by omega, by go_num, pw_below_drewN HB5.out _⟩
      case measure => simp [intOf]; omega
    · have hje : j = l.length := by omega
      subst hje
      have hcl := ((HP.out.below HB4.out).below HBL.out).cells
      have o0 := (HO3.out.below HBL.out HO3.out.lt).cell 0
      simp only [List.getElem?_cons_zero] at o0
      have HBW := Lib.hid (HB4.out.trans (HBL.out.mono HB4.out.size))
      have HCL := Lib.hid (fun (o : Obj) => And.intro hcl.1 (fun hn : 0 < l.length => by
        obtain ⟨ad, e, hc9⟩ := hcl.2 hn
        exact (⟨ad, e, fun j u hu => pw_cell_below ((Below.refl wr.heap.size wr).alloc (Nat.le_refl _) o) (hc9 j u hu)⟩ : ∃ ad, A = some ad ∧ ∀ j u, (l.flatMap pcells)[j]? = some u → (wr.alloc o).cell? (ad.add j) = some u)))
      clear hcl
      go_wp2_with (at_builtin; refine print_append_spread (W := wr) rfl _ _ TPAs TPA (.agg #[.int .i64 0, .int .i64 0]) 2 16 (by decide) rfl Try.underlying22 pinfo_pair rfl (A := A) (n := l.length) (c := c) (us := l.flatMap pcells) rfl rfl (HCL.out _) (one_pairs l) (by simp only [maxLen]; omega) (by omega) ?_)
      intro v6 w6 ho6 hb6
      have HPW := Lib.hid (PRow.of_own (Go.Proofs.YteeficpjggimcaaW.PrintWords.own_weaken ho6 HBW.out.size))
      have HB6 := Lib.hid (HBW.out.trans (hb6.mono HBW.out.size))
      have hb26 := HBL.out.trans (hb6.mono HBL.out.size)
      have HPI6 := Lib.hid (HPI.out.below hb26)
      have HQ6 := Lib.hid (HQ3.out.below hb26 HQ3.out.lt)
      have HR6 := Lib.hid (HR3.out.below hb26 HR3.out.lt)
      have HO6 := Lib.hid (HO3.out.below hb26 HO3.out.lt)
      have HP6 := Lib.hid (HP.out.below HB6.out)
      have o1 := HO6.out.cell 0
      have o2 := HO6.out.cell 1
      have o3 := HO6.out.cell 2
      simp only [List.getElem?_cons_zero, List.getElem?_cons_succ] at o1 o2 o3
      clear ho6 hb6 hb26 o0 HBW HBL HCL HB4 HQ3 HR3 HO3
      have hne : qb_ ≠ rb_ := by have := HRB.out; have := HQB.out; have := HZ.out.1; have := HZ.out.2; omega
      have hne2 := hne.symm
      go_wp2_with fail
      have hdr := (Below.refl w6.heap.size w6).drew
      have HQ7 := Lib.hid (HQ6.out.below hdr HQ6.out.lt)
      have HR7 := Lib.hid (HR6.out.below hdr HR6.out.lt)
      clear hdr
      have q0 := HQ6.out.cell 0
      have q0' := HQ7.out.cell 0
      have r0 := HR6.out.cell 0
      have r0' := HR7.out.cell 0
      have rz0 : w6.frozen? ⟨rb_, 0, none⟩ = false := HR6.out.free _ rfl
      have rz0' : w6.drew.frozen? ⟨rb_, 0, none⟩ = false := HR7.out.free _ rfl
      have q1 := HQ6.out.cell 1
      have q1' := HQ7.out.cell 1
      have r1 := HR6.out.cell 1
      have r1' := HR7.out.cell 1
      have rz1 : w6.frozen? ⟨rb_, 1, none⟩ = false := HR6.out.free _ rfl
      have rz1' : w6.drew.frozen? ⟨rb_, 1, none⟩ = false := HR7.out.free _ rfl
      have q2 := HQ6.out.cell 2
      have q2' := HQ7.out.cell 2
      have r2 := HR6.out.cell 2
      have r2' := HR7.out.cell 2
      have rz2 : w6.frozen? ⟨rb_, 2, none⟩ = false := HR6.out.free _ rfl
      have rz2' : w6.drew.frozen? ⟨rb_, 2, none⟩ = false := HR7.out.free _ rfl
      have q3 := HQ6.out.cell 3
      have q3' := HQ7.out.cell 3
      have r3 := HR6.out.cell 3
      have r3' := HR7.out.cell 3
      have rz3 : w6.frozen? ⟨rb_, 3, none⟩ = false := HR6.out.free _ rfl
      have rz3' : w6.drew.frozen? ⟨rb_, 3, none⟩ = false := HR7.out.free _ rfl
      simp only [List.getElem?_cons_zero, List.getElem?_cons_succ] at q0 q1 q2 q3 q0' q1' q2' q3' r0 r1 r2 r3 r0' r1' r2' r3'
      go_region
      go_wp2
      have hfin : Fr w6 _ (fun k => k = rb_) := (((((Fr.refl w6 (fun k => k = rb_)).setCell ⟨rb_, 0, none⟩ (.bool true) (fun _ => rfl)).setCell ⟨rb_, 1, none⟩ (.int .i64 0) (fun _ => rfl)).setCell ⟨rb_, 2, none⟩ (.int .i64 0) (fun _ => rfl)).setCell ⟨rb_, 3, none⟩ (.slice A4 c4 c5) (fun _ => rfl)).drew
      have hblk : Blk _ rb_ TRT [.bool true, .int .i64 0, .int .i64 0, .slice A4 c4 c5] := ((((HR6.out.set 0 (.bool true)).set 1 (.int .i64 0)).set 2 (.int .i64 0)).set 3 (.slice A4 c4 c5)).drew
      refine bodyPost_ret (results_tc rfl _ _ rb_ TRT _ (0, 0) _ rfl hblk Try.underlying39 rfl rtsize) rfl ?_
      exact HQ'.out _ _ ⟨_, _, rfl, HPW.out.fr hfin (fun k hk => ⟨TRT, _, hk ▸ HR6.out, by decide⟩), HPI6.out.fr hfin (fun k hk => ⟨TRT, _, hk ▸ HR6.out, by decide⟩), HB6.out.trans (hfin.below (by exact HB6.out.size) (fun k hk => by have := HRB.out; omega))⟩
end Go.Proofs.Yteeficpjggimcaa
