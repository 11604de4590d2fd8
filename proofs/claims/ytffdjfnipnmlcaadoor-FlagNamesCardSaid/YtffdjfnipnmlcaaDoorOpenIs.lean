/- The argument '[]int', opened. No condition. -/
import Derived.Test.YtffdjfnipnmlcaaDoorOpen
import Derived.Test.YtffdjfnipnmlcaaDoorInts
namespace Go.Proofs.YtffdjfnipnmlcaaDoor
open Go.ChangeShapes Go.WideShapes Go.ChangeAt Go.RowKit
set_option linter.unusedVariables false

/-- A slice of ints that came in. -/
def InIs (w : World) (A : Option Addr) (n c : Nat) (xs : List Int) : Prop := xs.length = n ∧ n ≤ c ∧ c ≤ maxLen ∧ Arr w A (is xs)

theorem open_arg22 {H : Type} {enc : TypeId × Value → H} {W : World} {A : Option Addr} {n c : Nat} {d : DataW H} {p : List MemPlace}
    (h : DataW.Trod enc Tryd.prog W 0 (fun _ => true) true 22 (.slice A n c) d p) : ∃ xs, InIs W A n c xs := by
  obtain ⟨fuel, hf⟩ := h
  rcases open_ints Tryd.underlying22 Tryd.underlying3 (by kernel_rfl) hf with ⟨hcs, _⟩ | ⟨x, l, c', zs, hcs, _, hl, hm, hz, _, hcell, hwz⟩
  · simp [Value.cells] at hcs
    obtain ⟨rfl, rfl, rfl⟩ := hcs
    exact ⟨[], rfl, Nat.le_refl _, by simp [maxLen], Arr.nil _ _⟩
  · simp [Value.cells] at hcs
    obtain ⟨rfl, rfl, rfl⟩ := hcs
    have hz' : zs.length = c := by simpa using hz
    refine ⟨zs.take n, by simp; omega, hl, hm, fun _ => ⟨x, rfl, fun j u hu => ?_⟩⟩
    have hj : j < n ∧ j < zs.length := by
      have := (List.getElem?_eq_some_iff.1 hu).1
      simp [is] at this
      omega
    rw [hcell j hj.2, ← hu]
    simp [is, hj.1, hj.2]

end Go.Proofs.YtffdjfnipnmlcaaDoor
