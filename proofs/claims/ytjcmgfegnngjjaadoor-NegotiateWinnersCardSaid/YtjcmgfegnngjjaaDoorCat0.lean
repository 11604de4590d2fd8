/- slices.Grow, slices.Concat and octet.Cat of bytes: their contracts. -/
import Derived.Test.YtjcmgfegnngjjaaDoorClone
import Derived.Lib.AppendZeros
namespace Go.Proofs.YtjcmgfegnngjjaaDoor
open Go.RowKit
set_option linter.unusedVariables false
set_option linter.unusedSimpArgs false

/-- A byte string, as one cell. -/
def ByE (w : World) (xs : List Int) (cs : List Value) : Prop := ∃ A c, cs = [.slice A xs.length c] ∧ xs.length ≤ c ∧ c ≤ maxLen ∧ Arr w A (bs xs) ∧ IsB xs
theorem ByE.and {w w' : World} (k : Kp NoB w w') : ∀ xs cs, ByE w xs cs → ByE w' xs cs := fun xs cs ⟨A, c, h1, h2, h3, h4, h5⟩ => ⟨A, c, h1, h2, h3, h4.and k, h5⟩

/-- Byte strings, joined. -/
def catL (xss : List (List Int)) : List Int := xss.flatten
theorem catL_nil : catL [] = [] := rfl
theorem flat_snoc (xss : List (List Int)) (j : Nat) (h : j < xss.length) : catL (xss.take (j + 1)) = catL (xss.take j) ++ xss[j] := by
  unfold catL
  rw [List.take_succ_eq_append_getElem h, List.flatten_append]
  simp
theorem flat_le (xss : List (List Int)) (j : Nat) : (catL (xss.take j)).length ≤ (catL xss).length := by
  unfold catL
  conv => rhs; rw [← List.take_append_drop j xss, List.flatten_append, List.length_append]
  omega
theorem flat_isB (xss : List (List Int)) (h : ∀ xs ∈ xss, IsB xs) : IsB (catL xss) := fun x hx => by
  obtain ⟨xs, h1, h2⟩ := List.mem_flatten.1 hx
  exact h xs h1 x h2

/-- An element of a slice of byte strings, as the walk asks for it. -/
theorem byE_at {w : World} {A : Option Addr} {xss : List (List Int)} (h : Sl ByE 1 w A xss) (j : Nat) (hj : j < xss.length) :
    ∃ ad B c, A = some ad ∧ w.cell? (ad.add j) = some (.slice B xss[j].length c) ∧ xss[j].length ≤ c ∧ Arr w B (bs xss[j]) ∧ IsB xss[j] := by
  obtain ⟨ad, cs, e, _, ⟨B, c, rfl, h2, _, h4, h5⟩, hc⟩ := h.at (List.getElem?_eq_getElem hj)
  have := hc 0 _ rfl
  rw [Nat.mul_one, Nat.add_zero] at this
  exact ⟨ad, B, c, e, this, h2, h4, h5⟩

/-! ### slices.Grow at nil -/

/-- An empty row with room. -/
theorem own_room (w : World) (base n cap : Nat) (hb : base ≤ w.heap.size) (hn : n ≤ cap) (hc : cap ≤ maxLen) :
    (w.alloc (.cells (Builtin.zeroCells #[.int .u8 0] n ++ Builtin.zeroCells #[.int .u8 0] (cap - n)) 5)).ownsRow base 5 1 (.slice (some ⟨w.heap.size, 0, none⟩) 0 cap) 0 [] :=
  ⟨by simp, .inr ⟨_, cap, _, rfl, hb, heap_alloc_new w _, Nat.zero_le _, hc, by simp only [Array.size_append, size_zeroCells]; simp; omega, by simp⟩⟩

end Go.Proofs.YtjcmgfegnngjjaaDoor
