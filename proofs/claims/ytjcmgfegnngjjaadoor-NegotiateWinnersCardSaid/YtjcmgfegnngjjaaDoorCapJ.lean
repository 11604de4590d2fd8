/- Chapter 16's example; the walk of the law CapabilityForms: it returns true and makes only new blocks, for all capabilities. -/
import Derived.Test.YtjcmgfegnngjjaaDoorCapE
import Derived.Test.YtjcmgfegnngjjaaDoorOpenCap
namespace Go.Proofs.YtjcmgfegnngjjaaDoor
open Go.RowKit
set_option linter.unusedVariables false
set_option linter.unusedSimpArgs false

/-- Few capabilities: how many, and how long their form is. -/
theorem few_len {xs : List CapI} (h : fewB xs = true) : xs.length ≤ 40 ∧ (formC xs).length ≤ 100000 := by
  simp only [fewB, Bool.and_eq_true, List.all_eq_true, decide_eq_true_eq] at h
  refine ⟨h.2, ?_⟩
  have : ∀ ys : List CapI, (∀ x ∈ ys, x.data.length ≤ 300) → (formC ys).length ≤ 302 * ys.length := by
    intro ys
    induction ys with
    | nil => intro _; exact Nat.zero_le _
    | cons y ys ih =>
      intro hy
      have h1 := ih (fun x hx => hy x (by simp [hx]))
      have h2 := hy y (by simp)
      simp only [formC, List.flatMap_cons, List.length_append, List.length_cons] at h1 ⊢
      omega
  have := this xs h.1
  omega
theorem CapL.isB {w : World} {xs : List CapI} {cs : List Value} (h : CapL w xs cs) : ∀ x ∈ xs, IsB x.data := by
  intro x hx
  obtain ⟨j, hj, rfl⟩ := List.mem_iff_getElem.1 hx
  obtain ⟨a, b, _, _, _, _, A, c, _, _, _, _, h7⟩ := h.2 j _ (List.getElem?_eq_getElem hj)
  exact h7
theorem form_isB {xs : List CapI} (hv : validB xs = true) (hb : ∀ x ∈ xs, IsB x.data) : IsB (formC xs) := by
  intro z hz
  obtain ⟨x, hx, hz⟩ := List.mem_flatMap.1 hz
  have hv' : ∀ x ∈ xs, okC x = true := by simpa [validB] using hv
  have := hv' x hx
  simp only [okC, decide_eq_true_eq] at this
  simp only [List.mem_cons] at hz
  rcases hz with rfl | rfl | hz
  · omega
  · omega
  · exact hb x hx z hz

end Go.Proofs.YtjcmgfegnngjjaaDoor
