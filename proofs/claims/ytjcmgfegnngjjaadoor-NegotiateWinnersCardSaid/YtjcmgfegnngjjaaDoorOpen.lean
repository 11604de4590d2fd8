/- Arguments opened: what a reading of an argument says of its cells. No condition. -/
import Derived.Test.YtjcmgfegnngjjaaDoorMem
import Derived.Test.YtjcmgfegnngjjaaDoorPlain
import Derived.Test.YtjcmgfegnngjjaaDoorProg
import Derived.ProofKit
import Derived.OpenShut
import Derived.Deep.Slices
import Derived.Deep.Fields
import Derived.KernelRfl
namespace Go.Proofs.YtjcmgfegnngjjaaDoor
open Go.ChangeShapes Go.WideShapes Go.ChangeAt Go.RowKit

/-- A slice of bytes that came in: the bytes xs. -/
def InBytes (w : World) (A : Option Addr) (n c : Nat) (xs : List Int) : Prop := xs.length = n ∧ n ≤ c ∧ c ≤ maxLen ∧ Arr w A (bs xs) ∧ IsB xs

theorem open_bytes {H : Type} {enc : TypeId × Value → H} {W : World} {A : Option Addr} {n c : Nat} {d : DataW H} {p : List MemPlace}
    (h : DataW.Trod enc Tryd.prog W 0 (fun _ => true) true 43 (.slice A n c) d p) : ∃ xs, InBytes W A n c xs := by
  obtain ⟨fuel, hf⟩ := h
  rcases open_ints Tryd.underlying43 Tryd.underlying5 (by kernel_rfl) hf with ⟨hcs, _⟩ | ⟨x, l, c', zs, hcs, _, hl, hm, hz, _, hcell, hwz⟩
  · simp [Value.cells] at hcs
    obtain ⟨rfl, rfl, rfl⟩ := hcs
    exact ⟨[], rfl, Nat.le_refl _, by simp [maxLen], Arr.nil _ _, IsB.nil⟩
  · simp [Value.cells] at hcs
    obtain ⟨rfl, rfl, rfl⟩ := hcs
    have hz' : zs.length = c := by simpa using hz
    refine ⟨zs.take n, by simp; omega, hl, hm, fun _ => ⟨x, rfl, fun j u hu => ?_⟩, fun y hy => ?_⟩
    · have hj : j < n ∧ j < zs.length := by
        have := (List.getElem?_eq_some_iff.1 hu).1
        simp [bs] at this
        omega
      rw [hcell j hj.2, ← hu]
      simp [bs, hj.1, hj.2]
    · have := bounds_u8 (hwz y (List.mem_of_mem_take hy))
      omega

/-- A slice that came in, of whatever elements. -/
theorem open_sl {H : Type} {enc : TypeId × Value → H} {W : World} {α : Type} [Inhabited α] {t e : TypeId} (ht : Tryd.prog.underlying t = some (.slice e)) (sz : Nat) (hsz : Tryd.prog.cellsOf e = sz) (E : World → α → List Value → Prop)
    (he : ∀ (fuel : Nat) (cs : List Value) (x : DataW H × List MemPlace), DataW.trod enc Tryd.prog W 0 (fun _ => true) true fuel e cs = some x → ∃ a, E W a cs)
    {fuel : Nat} {cs : List Value} {x : DataW H × List MemPlace} (h : DataW.trod enc Tryd.prog W 0 (fun _ => true) true fuel t cs = some x) :
    ∃ A n c, cs = [.slice A n c] ∧ n ≤ c ∧ c ≤ maxLen ∧ ∃ xs : List α, xs.length = n ∧ Sl E sz W A xs := by
  rcases Go.Deep.open_slice ht h with ⟨rfl, _⟩ | ⟨a, len, cap, m, n, D, Pl, rfl, _, hl, hm, hmm, _, hx⟩
  · exact ⟨none, 0, 0, rfl, Nat.le_refl _, by simp [maxLen], [], rfl, Sl.nil _ _ _ _⟩
  · have hmc : m = cap := by rw [hmm]; rfl
    have each : ∀ i, i < len → ∃ q : α × List Value, W.cells? 0 (a.add (i * sz)) sz = some q.2 ∧ E W q.1 q.2 := by
      intro i hi
      obtain ⟨cs', h1, h2⟩ := hx i (by omega)
      rw [hsz] at h1
      obtain ⟨y, hy⟩ := he _ _ _ h2
      exact ⟨(y, cs'), h1, hy⟩
    obtain ⟨q, hq⟩ := Go.Deep.choose_lt each
    refine ⟨_, _, _, rfl, hl, hm, (List.range len).map fun i => (q i).1, by simp, fun _ => ⟨a, rfl, fun j y hy => ?_⟩⟩
    have hj : j < len := by
      have := (List.getElem?_eq_some_iff.1 hy).1
      simpa using this
    have hy' : y = (q j).1 := by
      simp [hj] at hy
      exact hy.symm
    subst hy'
    obtain ⟨h1, h2⟩ := hq j hj
    obtain ⟨_, hlen, hcell⟩ := World.cells?_some h1
    refine ⟨(q j).2, hlen, h2, fun i u hu => ?_⟩
    have hi : i < sz := by have := (List.getElem?_eq_some_iff.1 hu).1; omega
    rw [← add_add, hcell i hi, hu]

end Go.Proofs.YtjcmgfegnngjjaaDoor
