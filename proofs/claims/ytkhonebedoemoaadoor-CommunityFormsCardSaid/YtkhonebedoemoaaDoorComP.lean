/- Groups without repetitions: the plain side. No condition. -/
import Derived.Test.YtkhonebedoemoaaDoorComO
namespace Go.Proofs.YtkhonebedoemoaaDoor
open Go.RowKit
set_option linter.unusedVariables false
set_option linter.unusedSimpArgs false

/-- The first j groups. -/
def cks (g : Nat) (xs : List Int) (j : Nat) : List (List Int) := (List.range j).map (chunkN g xs)
theorem cks_succ (g : Nat) (xs : List Int) (j : Nat) : cks g xs (j + 1) = cks g xs j ++ [chunkN g xs j] := by simp [cks, List.range_succ]
def uStep (acc : List (List Int)) (x : List Int) : List (List Int) := if x ∈ acc then acc else acc ++ [x]
/-- The first j groups without repetitions. -/
def uqL (g : Nat) (xs : List Int) (j : Nat) : List (List Int) := (cks g xs j).foldl uStep []
theorem uqL_succ (g : Nat) (xs : List Int) (j : Nat) : uqL g xs (j + 1) = uStep (uqL g xs j) (chunkN g xs j) := by
  unfold uqL
  rw [cks_succ, List.foldl_append]
  rfl
theorem uq_from (ls : List (List Int)) : ∀ acc : List (List Int), (∀ y, y ∈ ls.foldl uStep acc ↔ y ∈ acc ∨ y ∈ ls) := by
  induction ls with
  | nil => simp
  | cons x ls ih =>
    intro acc y
    rw [List.foldl_cons, ih]
    unfold uStep
    split
    · rename_i h
      constructor
      · rintro (h1 | h1)
        · exact .inl h1
        · exact .inr (by simp [h1])
      · rintro (h1 | h1)
        · exact .inl h1
        · rcases List.mem_cons.1 h1 with rfl | h1
          · exact .inl h
          · exact .inr h1
    · simp [or_assoc]
theorem uqL_mem (g : Nat) (xs : List Int) (j : Nat) (y : List Int) : y ∈ uqL g xs j ↔ y ∈ cks g xs j := by
  unfold uqL
  rw [uq_from]
  simp
theorem cks_len {g : Nat} {xs : List Int} {j : Nat} (h : j * g ≤ xs.length) : ∀ y ∈ cks g xs j, y.length = g := by
  intro y hy
  obtain ⟨q, hq, rfl⟩ := List.mem_map.1 hy
  have hq := List.mem_range.1 hq
  exact chunk_len (Nat.le_trans (Nat.mul_le_mul_right g hq) h)
theorem uqL_len {g : Nat} {xs : List Int} {j : Nat} (h : j * g ≤ xs.length) : ∀ y ∈ uqL g xs j, y.length = g := fun y hy => cks_len h y ((uqL_mem g xs j y).1 hy)
theorem uqL_le (g : Nat) (xs : List Int) (j : Nat) : (uqL g xs j).length ≤ j := by
  induction j with
  | zero => simp [uqL, cks]
  | succ j ih =>
    rw [uqL_succ]
    unfold uStep
    split
    · omega
    · rw [List.length_append, List.length_singleton]
      omega
theorem uqL_nodup (g : Nat) (xs : List Int) (j : Nat) : (uqL g xs j).Nodup := by
  induction j with
  | zero => simp [uqL, cks]
  | succ j ih =>
    rw [uqL_succ]
    unfold uStep
    split
    · exact ih
    · rename_i h
      rw [List.nodup_append]
      exact ⟨ih, by simp, fun a ha b hb => by rw [List.mem_singleton.1 hb]; intro e; rw [e] at ha; exact h ha⟩
theorem flat_len {g : Nat} : ∀ {ls : List (List Int)}, (∀ y ∈ ls, y.length = g) → ls.flatten.length = ls.length * g
  | [], _ => by simp
  | x :: ls, h => by
    rw [List.flatten_cons, List.length_append, List.length_cons, h x (by simp), flat_len (ls := ls) (fun y hy => h y (by simp [hy])), Nat.succ_mul]
    omega
theorem chunk_flat {g : Nat} : ∀ (ls : List (List Int)) (q : Nat) (x : List Int), (∀ y ∈ ls, y.length = g) → ls[q]? = some x → chunkN g ls.flatten q = x
  | [], q, x, _, hq => by simp at hq
  | y :: ls, 0, x, h, hq => by
    simp at hq
    subst hq
    unfold chunkN
    rw [Nat.zero_mul, List.drop_zero, List.flatten_cons, List.take_append_of_le_length (by rw [h y (by simp)]; exact Nat.le_refl _), List.take_of_length_le (by rw [h y (by simp)]; exact Nat.le_refl _)]
  | y :: ls, q + 1, x, h, hq => by
    have ih := chunk_flat ls q x (fun y hy => h y (by simp [hy])) (by simpa using hq)
    unfold chunkN at ih ⊢
    rw [Nat.succ_mul, List.flatten_cons, Nat.add_comm, ← List.drop_drop, List.drop_left' (h y (by simp))]
    exact ih
theorem cks_flat {g : Nat} {ls : List (List Int)} (h : ∀ y ∈ ls, y.length = g) : cks g ls.flatten ls.length = ls := by
  refine List.ext_getElem? (fun q => ?_)
  unfold cks
  rw [List.getElem?_map]
  by_cases hq : q < ls.length
  · rw [List.getElem?_range hq, List.getElem?_eq_getElem hq]
    simp only [Option.map_some]
    rw [chunk_flat ls q ls[q] h (List.getElem?_eq_getElem hq)]
  · rw [List.getElem?_eq_none (by simpa using hq), List.getElem?_eq_none (by omega)]
    rfl
theorem hasL_cks (g : Nat) (xs ys : List Int) : hasL g xs ys = (cks g xs (xs.length / g)).any (fun y => decide (y = ys)) := by
  unfold hasL cks
  rw [List.any_map]
  rfl
theorem any_mem {l l' : List (List Int)} (h : ∀ y, y ∈ l ↔ y ∈ l') (ys : List Int) : l.any (fun y => decide (y = ys)) = l'.any (fun y => decide (y = ys)) := by
  rw [Bool.eq_iff_iff, List.any_eq_true, List.any_eq_true]
  constructor
  · rintro ⟨y, hy, e⟩
    exact ⟨y, (h y).1 hy, e⟩
  · rintro ⟨y, hy, e⟩
    exact ⟨y, (h y).2 hy, e⟩
/-- Has, also after Unique. -/
theorem hasL_uniq {g : Nat} (hg : 0 < g) (xs ys : List Int) (hx : xs.length % g = 0) : hasL g (uqL g xs (xs.length / g)).flatten ys = hasL g xs ys := by
  have hl := uqL_len (g := g) (xs := xs) (j := xs.length / g) (Nat.div_mul_le_self _ _)
  rw [hasL_cks, flat_len hl, Nat.mul_div_cancel _ hg, cks_flat hl, hasL_cks]
  exact any_mem (uqL_mem g xs _) ys
theorem uq_same (ls : List (List Int)) : ∀ acc : List (List Int), (acc ++ ls).Nodup → ls.foldl uStep acc = acc ++ ls := by
  induction ls with
  | nil => intro acc _; simp
  | cons x ls ih =>
    intro acc h
    have hx : x ∉ acc := fun hx => by
      rw [List.nodup_append] at h
      exact h.2.2 x hx x (by simp) rfl
    rw [List.foldl_cons, show uStep acc x = acc ++ [x] by unfold uStep; rw [if_neg hx], ih _ (by rw [List.append_assoc]; exact h), List.append_assoc]
    rfl
/-- A second time nothing changes. -/
theorem uq_twice {g : Nat} (hg : 0 < g) (xs : List Int) : let l := (uqL g xs (xs.length / g)).flatten; uqL g l (l.length / g) = uqL g xs (xs.length / g) := by
  have hl := uqL_len (g := g) (xs := xs) (j := xs.length / g) (Nat.div_mul_le_self _ _)
  show uqL g (uqL g xs (xs.length / g)).flatten _ = _
  rw [flat_len hl, Nat.mul_div_cancel _ hg]
  rw [uqL, cks_flat hl]
  exact uq_same _ [] (uqL_nodup g xs _)

end Go.Proofs.YtkhonebedoemoaaDoor
