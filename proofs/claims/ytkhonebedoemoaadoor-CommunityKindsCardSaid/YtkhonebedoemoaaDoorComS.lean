/- Unique, whole, and Has of what it returns. No condition but the bounds that arguments have. -/
import Derived.Test.YtkhonebedoemoaaDoorComR
namespace Go.Proofs.YtkhonebedoemoaaDoor
open Go.RowKit
set_option linter.unusedVariables false
set_option linter.unusedSimpArgs false

theorem zU_ok {k : Int} (hk : -9223372036854775808 ≤ k ∧ k ≤ 9223372036854775807) (p : Bool) (A : Option Addr) {n : Nat} (c : Nat) (hn : n ≤ 1000) : (zU k p A n c).Ok := ⟨hk, by simp [zU], by simp [zU], by simp [zU], by simp [zU]; omega⟩
theorem zZ_ok : zZ.Ok := ⟨by simp [zZ], by simp [zZ], by simp [zZ], by simp [zZ], by simp [zZ]⟩
theorem zZ_bad : validC zZ = false := by simp [validC, zZ, grp]
theorem zU_valid {k : Int} (p : Bool) (A : Option Addr) {n : Nat} (c : Nat) (hg : 0 < grp k) (hn : 0 < n) (hm : n % grp k = 0) : validC (zU k p A n c) = true := by
  simp [validC, zU, plainB, AtI.rest, AtI.bare, hg, hn, hm]
/-- The list that Unique returns. -/
def uniqL (z : AtI) (xs : List Int) : List Int := (uqL (grp z.t) xs (numG z)).flatten
structure UniqF (z : AtI) (xs : List Int) : Prop where
  le : (uniqL z xs).length ≤ z.ln
  pos : 0 < (uniqL z xs).length
  mod : (uniqL z xs).length % grp z.t = 0
  u : IsU (uniqL z xs)
theorem uniq_facts {z : AtI} {xs : List Int} (hv : validC z = true) (hx : xs.length = z.ln) (hu : IsU xs) : 0 < grp z.t ∧ z.ln % grp z.t = 0 ∧ 0 < z.ln ∧ numG z = xs.length / grp z.t ∧ UniqF z xs := by
  have hv' := hv
  unfold validC at hv'
  simp only [Bool.and_eq_true, decide_eq_true_eq] at hv'
  obtain ⟨⟨⟨hg0, hn0⟩, hmod⟩, -⟩ := hv'
  have hN : numG z = xs.length / grp z.t := by unfold numG; rw [if_pos hv, hx]
  have hge : grp z.t ≤ z.ln := Nat.le_of_dvd hn0 (Nat.dvd_of_mod_eq_zero hmod)
  have h1 : 0 < numG z := by rw [hN, hx]; exact Nat.div_pos hge hg0
  have hle : numG z * grp z.t ≤ xs.length := by rw [hN]; exact Nat.div_mul_le_self _ _
  have hl := uqL_len hle
  have hfl : (uniqL z xs).length = (uqL (grp z.t) xs (numG z)).length * grp z.t := flat_len hl
  have hne : 0 < (uqL (grp z.t) xs (numG z)).length := by
    have : chunkN (grp z.t) xs 0 ∈ uqL (grp z.t) xs (numG z) := (uqL_mem _ _ _ _).2 (List.mem_map.2 ⟨0, List.mem_range.2 h1, rfl⟩)
    exact List.length_pos_of_mem this
  refine ⟨hg0, hmod, hn0, hN, ?_, ?_, ?_, ?_⟩
  · rw [hfl, ← hx]
    exact Nat.le_trans (Nat.mul_le_mul_right _ (uqL_le _ _ _)) hle
  · rw [hfl]
    exact Nat.mul_pos hne hg0
  · rw [hfl]
    exact Nat.mul_mod_left _ _
  · intro x hx'
    obtain ⟨l, hl', hxl⟩ := List.mem_flatten.1 hx'
    obtain ⟨q, _, rfl⟩ := List.mem_map.1 ((uqL_mem _ _ _ _).1 hl')
    exact hu x (List.mem_of_mem_drop (List.mem_of_mem_take hxl))

theorem uniq_has (z : AtI) (ok : z.Ok) (xs ys : List Int) (A : Option Addr) (c : Nat) (w : World) (hx : InUs w z.L z.ln z.lc xs) (hl : z.ln ≤ 1000) (hy : Arr w A (us ys)) (hl2 : ys.length ≤ 100000) :
    Calls Tryd.prog 12 #[z.val] w fun e w' => ∃ y : Value, e = .returned y ∧ Kp NoB w w' ∧ ∀ W, Kp NoB w' W → Calls Tryd.prog 11 #[y, .slice A ys.length c] W (Stay (.bool (validC z && hasL (grp z.t) xs ys)) W) := by
  cases hv : validC z with
  | false =>
    refine (cuniq_bad z ok w hv).mono fun e w' ⟨h1, h2⟩ => ⟨zZ.val, h1, h2, fun W k => ?_⟩
    have := chas_any zZ zZ_ok [] ys A c W ⟨rfl, Nat.le_refl _, by simp [zZ, maxLen], Arr.nil _ _, fun x hx => nomatch hx⟩ (hy.and (h2.and k)) (by simp [zZ]) hl2
    rw [zZ_bad, Bool.false_and] at this
    rw [Bool.false_and]
    exact this
  | true =>
    obtain ⟨hg, hmod, hn, hN, hF⟩ := uniq_facts hv hx.1 hx.2.2.2.2
    refine (cuniq_good z ok xs w hx hl hv).mono fun e w' ⟨A', c', h1, h2, h3⟩ => ⟨_, h1, h3, fun W k => ?_⟩
    obtain ⟨A2, c2, e2, q1, q2, q3⟩ := own_form h2
    injection e2 with e3 _ e5
    subst e3 e5
    have hle : (uniqL z xs).length ≤ 1000 := Nat.le_trans hF.le hl
    have := chas_any (zU z.t z.p A' (uniqL z xs).length c') (zU_ok ok.t z.p A' c' hle) (uniqL z xs) ys A c W ⟨rfl, q1, q2, q3.and k, hF.u⟩ (hy.and (h3.and k)) (show (uniqL z xs).length ≤ 100000 by omega) hl2
    rw [zU_valid z.p A' c' hg hF.pos hF.mod, Bool.true_and] at this
    rw [Bool.true_and]
    have e : hasL (grp z.t) (uniqL z xs) ys = hasL (grp z.t) xs ys := by
      unfold uniqL
      rw [hN]
      exact hasL_uniq hg xs ys (by rw [hx.1]; exact hmod)
    rw [← e]
    exact this

end Go.Proofs.YtkhonebedoemoaaDoor
