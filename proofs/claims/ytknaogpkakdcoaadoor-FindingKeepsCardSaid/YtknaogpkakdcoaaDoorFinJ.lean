/- FindingFolds: the argument []api.Verdict, opened; the plain law; contracts in one form. No condition but the bounds that arguments have. -/
import Derived.Test.YtknaogpkakdcoaaDoorFinI
import Derived.Test.YtknaogpkakdcoaaDoorFinOrd
namespace Go.Proofs.YtknaogpkakdcoaaDoor
open Go.ChangeShapes Go.WideShapes Go.ChangeAt Go.RowKit
set_option linter.unusedVariables false
set_option linter.unusedSimpArgs false

/-! ### the plain law -/
def opZ (x m : ArgV) : ArgV := if wsZ m x then m else x
theorem opZ_assoc (x m c : ArgV) : opZ (opZ x m) c = opZ x (opZ m c) := by
  unfold opZ
  by_cases h1 : wsZ m x = true <;> by_cases h2 : wsZ c m = true <;> by_cases h3 : wsZ c x = true <;>
    simp only [h1, h2, h3, if_true, if_false, Bool.false_eq_true, reduceIte] <;> (exfalso; rw [wsZ_iff] at h1 h2 h3; omega)
theorem minZ_op (x m : ArgV) (r : List ArgV) : minZ (opZ x m) r = opZ x (minZ m r) := by
  induction r generalizing m with
  | nil => rfl
  | cons c r ih =>
    have e : ∀ q : ArgV, minZ q (c :: r) = minZ (opZ q c) r := fun _ => rfl
    rw [e, e, opZ_assoc, ih]
theorem foldZ_append (xs ys : List ArgV) (hx : xs ≠ []) (hy : ys ≠ []) : foldZ (xs ++ ys) = opZ (foldZ xs) (foldZ ys) := by
  cases xs with
  | nil => exact absurd rfl hx
  | cons x xs =>
    cases ys with
    | nil => exact absurd rfl hy
    | cons y ys =>
      show minZ x (xs ++ y :: ys) = opZ (minZ x xs) (minZ y ys)
      rw [← minZ_op]
      unfold minZ opZ
      rw [List.foldl_append, List.foldl_cons]
theorem foldZ_ok (P : ArgV → Prop) (h0 : P zeroZ) (zs : List ArgV) (h : ∀ z ∈ zs, P z) : P (foldZ zs) := by
  by_cases hz : zs = []
  · subst hz
    exact h0
  · exact h _ (foldZ_mem zs hz)
/-- Two verdicts with the same words. -/
def Like (x y : ArgV) : Prop := x.k = y.k ∧ x.c = y.c ∧ x.s = y.s ∧ x.d = y.d ∧ x.a = y.a
theorem opZ_like {x x' m m' : ArgV} (h1 : Like x x') (h2 : Like m m') : Like (opZ x m) (opZ x' m') := by
  have e : wsZ m x = wsZ m' x' := by
    unfold wsZ
    rw [h1.1, h1.2.2.2.2, h2.1, h2.2.2.2.2]
  unfold opZ
  rw [e]
  split
  · exact h2
  · exact h1

/-! ### contracts in one form -/
def VerQ (w : World) (k c s : Int) (d : List Int) (n : Nat) (a : Int) (e : Ending) (w' : World) : Prop := ∃ A m, e = .returned (.agg #[.int .i64 k, .int .i64 c, .int .i64 s, .slice A n m, .int .i64 a]) ∧ Arr w' A (bs d) ∧ Kp NoB w w'
theorem VerM.q {w w' : World} {z : ArgV} {e : Ending} {k c s a : Int} {d : List Int} {n : Nat} (h : VerM w z e w') (hl : z.k = k ∧ z.c = c ∧ z.s = s ∧ z.d = d ∧ z.a = a) (hn : d.length = n) : VerQ w k c s d n a e w' := by
  obtain ⟨A, m, he, ha, -, hk⟩ := h
  obtain ⟨rfl, rfl, rfl, rfl, rfl⟩ := hl
  subst hn
  exact ⟨A, m, he, ha, hk⟩

/-! ### the argument -/
instance : Inhabited ArgV := ⟨zeroZ⟩
/-- Verdicts that came in. -/
def InVs (w : World) (A : Option Addr) (n c : Nat) (zs : List ArgV) : Prop := zs.length = n ∧ n ≤ c ∧ c ≤ maxLen ∧ VsL w A zs ∧ ∀ z ∈ zs, InV w z
theorem open_arg29 {H : Type} {enc : TypeId × Value → H} {W : World} {A : Option Addr} {n c : Nat} {d : DataW H} {p : List MemPlace}
    (h : DataW.Trod enc Tryd.prog W 0 (fun _ => true) true 29 (.slice A n c) d p) : ∃ zs, InVs W A n c zs := by
  obtain ⟨fuel, hf⟩ := h
  obtain ⟨A', n', c', hcs, h1, h2, xs, h3, h4⟩ := open_sl (α := ArgV) Tryd.underlying29 5 (by kernel_rfl) (fun W z cs => cs = z.cs ∧ InV W z) (fun fuel cs x hx => open_ver_cs hx) hf
  simp [Value.cells] at hcs
  obtain ⟨rfl, rfl, rfl⟩ := hcs
  refine ⟨xs, h3, h1, h2, fun hn => ?_, fun x hx => ?_⟩
  · obtain ⟨ad, e, hc⟩ := h4 hn
    refine ⟨ad, e, fun j x hx => ?_⟩
    obtain ⟨cs, q1, q2, q3⟩ := hc j x hx
    exact ⟨cs, q1, q2.1, q3⟩
  · obtain ⟨i, hi, e⟩ := List.getElem_of_mem hx
    obtain ⟨ad, cs, _, _, q2, _⟩ := h4.at (List.getElem?_eq_getElem hi)
    rw [e] at q2
    exact q2.2

/-- Two lists laid beside each other in a new block. -/
theorem vsE_two {w : World} {b : Nat} {t : TypeId} {A B : Option Addr} {xs ys : List ArgV} {n m c d : Nat} (h : Bk w b t #[.slice A n c, .slice B m d]) (hn : xs.length = n) (hm : ys.length = m) (hc : n ≤ c) (hd : m ≤ d) (hc' : c ≤ maxLen) (hd' : d ≤ maxLen) (hx : VsL w A xs) (hy : VsL w B ys) : Sl VsE 1 w (some ⟨b, 0, none⟩) [xs, ys] := fun _ =>
  ⟨_, rfl, fun j x hj => by
    have hlt : j < 2 := by have := (List.getElem?_eq_some_iff.1 hj).1; simpa using this
    match j, hlt with
    | 0, _ =>
      simp at hj; subst hj
      refine ⟨[.slice A n c], rfl, ⟨A, c, by rw [hn], by omega, hc', hx⟩, fun i u hu => ?_⟩
      have hi : i < 1 := (List.getElem?_eq_some_iff.1 hu).1
      have hi0 : i = 0 := by omega
      subst hi0
      rw [add_none, h.cell]
      simpa using hu
    | 1, _ =>
      simp at hj; subst hj
      refine ⟨[.slice B m d], rfl, ⟨B, d, by rw [hm], by omega, hd', hy⟩, fun i u hu => ?_⟩
      have hi : i < 1 := (List.getElem?_eq_some_iff.1 hu).1
      have hi0 : i = 0 := by omega
      subst hi0
      rw [add_none, h.cell]
      simpa using hu⟩
theorem vs_two {w : World} {b : Nat} {t : TypeId} {z1 z2 : ArgV} {cs : List Value} (h : Bk w b t cs.toArray) (hc : cs = z1.cs ++ z2.cs) : VsL w (some ⟨b, 0, none⟩) [z1, z2] := fun _ =>
  ⟨_, rfl, fun j x hx => by
    subst hc
    have hj : j < 2 := by have := (List.getElem?_eq_some_iff.1 hx).1; simpa using this
    match j, hj with
    | 0, _ =>
      simp at hx; subst hx
      refine ⟨z1.cs, rfl, rfl, fun i u hu => ?_⟩
      have hi : i < 5 := (List.getElem?_eq_some_iff.1 hu).1
      rw [add_none, h.cell, List.getElem?_toArray, Nat.zero_mul, Nat.zero_add, Nat.zero_add, List.getElem?_append_left (by show i < 5; omega)]
      exact hu
    | 1, _ =>
      simp at hx; subst hx
      refine ⟨z2.cs, rfl, rfl, fun i u hu => ?_⟩
      have hi : i < 5 := (List.getElem?_eq_some_iff.1 hu).1
      rw [add_none, h.cell, List.getElem?_toArray, List.getElem?_append_right (by show 5 ≤ 0 + (1 * 5 + i); omega)]
      rw [show 0 + (1 * 5 + i) - z1.cs.length = i by show 0 + (1 * 5 + i) - 5 = i; omega]
      exact hu⟩

end Go.Proofs.YtknaogpkakdcoaaDoor
