/- Arguments opened: what a reading of an argument says of its cells. No condition. -/
import Derived.Test.YtlgicacpfajmgaaMem
import Derived.Test.YtlgicacpfajmgaaPlain
import Derived.Test.YtlgicacpfajmgaaProg
import Derived.ProofKit
import Derived.OpenShut
import Derived.Deep.Slices
import Derived.Deep.Fields
import Derived.KernelRfl
namespace Go.Proofs.Ytlgicacpfajmgaa
open Go.ChangeShapes Go.WideShapes Go.ChangeAt Go.RowKit

/-- A slice of bytes that came in: the bytes xs. -/
def InBytes (w : World) (A : Option Addr) (n c : Nat) (xs : List Int) : Prop := xs.length = n ∧ n ≤ c ∧ c ≤ maxLen ∧ Arr w A (bs xs) ∧ IsB xs

theorem open_bytes {H : Type} {enc : TypeId × Value → H} {W : World} {A : Option Addr} {n c : Nat} {d : DataW H} {p : List MemPlace}
    (h : DataW.Trod enc Try.prog W 0 (fun _ => true) true 23 (.slice A n c) d p) : ∃ xs, InBytes W A n c xs := by
  obtain ⟨fuel, hf⟩ := h
  rcases open_ints Try.underlying23 Try.underlying5 (by kernel_rfl) hf with ⟨hcs, _⟩ | ⟨x, l, c', zs, hcs, _, hl, hm, hz, _, hcell, hwz⟩
  · simp [Value.cells] at hcs
    obtain ⟨rfl, rfl, rfl⟩ := hcs
    exact ⟨[], rfl, Nat.le_refl _, by simp [maxLen], Arr.nil _ _, IsB.nil⟩
  · simp [Value.cells] at hcs
    obtain ⟨rfl, rfl, rfl⟩ := hcs
    have hz' : zs.length = c := by simpa using hz
    refine ⟨zs.take n, by simp; omega, hl, hm, fun _ => ⟨x, rfl, fun j u hu => ?_⟩, fun y hy => ?_⟩
    · have hj : j < n ∧ j < zs.length := by
        have := (List.getElem?_eq_some_iff.1 hu).1
        simp [bs] at this
        omega
      rw [hcell j hj.2, ← hu]
      simp [bs, hj.1, hj.2]
    · have := bounds_u8 (hwz y (List.mem_of_mem_take hy))
      omega

end Go.Proofs.Ytlgicacpfajmgaa
