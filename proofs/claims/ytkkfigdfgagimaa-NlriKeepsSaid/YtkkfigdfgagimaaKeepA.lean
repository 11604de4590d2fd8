/- Rows of routes whose paths are written: what is kept. No condition. -/
import Derived.Test.YtkkfigdfgagimaaSplE
namespace Go.Proofs.Ytkkfigdfgagimaa
open Go.RowKit
set_option linter.unusedVariables false

/-- A row of the call's own, each nineteenth cell of which is a path. -/
def PathRow (w : World) (base : Nat) (v : Value) (n : Nat) : Prop := (v = .slice none 0 0 ∧ n = 0) ∨ ∃ g c cur, v = .slice (some ⟨g, 0, none⟩) n c ∧ base ≤ g ∧ Bk w g 31 cur ∧ ∀ i, i < n → ∃ p : Int, cur[i * 19]? = some (.int .u32 p)
theorem PathRow.of_own {w : World} {base n : Nat} {v : Value} {xs : List RtI} (h : w.ownsRow base 31 19 v n (flatE rtC xs)) (hn : xs.length = n) (hB : ∀ x ∈ xs, x.B) : PathRow w base v n := by
  rcases h.2 with ⟨rfl, h0⟩ | ⟨g, cap, cur, rfl, hg, hh, h1, h2, h3, h4⟩
  · exact .inl ⟨rfl, h0⟩
  · refine .inr ⟨g, cap, cur, rfl, hg, hh, fun i hi => ?_⟩
    have hx := List.getElem?_eq_getElem (show i < xs.length by omega)
    have hf := flatE_get xs (fun x hx => rtC_length (hB x hx).2.2.2.1) i _ hx 0 (.int .u32 xs[i].path) rfl
    rw [Nat.add_zero, ← h4, List.getElem?_take] at hf
    split at hf
    · exact ⟨_, by simpa using hf⟩
    · cases hf
theorem PathRow.keep {S : Nat → Prop} {w w' : World} {base n : Nat} {v : Value} (h : PathRow w base v n) (k : Kp S w w') (hs : ∀ b, v.ownBlock = some b → ¬ S b) : PathRow w' base v n := by
  rcases h with h | ⟨g, c, cur, rfl, h1, h2, h3⟩
  · exact .inl h
  · exact .inr ⟨g, c, cur, rfl, h1, h2.keep k (hs g rfl), h3⟩
theorem PathRow.and {w w' : World} {base n : Nat} {v : Value} (h : PathRow w base v n) (k : Kp NoB w w') : PathRow w' base v n := h.keep k (fun _ _ q => q)
/-- A path written, in whatever row. -/
theorem PathRow.set {w : World} {base n : Nat} {v : Value} (h : PathRow w base v n) (g' j : Nat) (p : Int) : PathRow (w.setCell ⟨g', j * 19, none⟩ (.int .u32 p)) base v n := by
  rcases h with h | ⟨g, c, cur, rfl, h1, h2, h3⟩
  · exact .inl h
  · by_cases hg : g = g'
    · subst hg
      refine .inr ⟨g, c, _, rfl, h1, h2.set (j * 19) (.int .u32 p), fun i hi => ?_⟩
      obtain ⟨q, hq⟩ := h3 i hi
      by_cases hij : j = i
      · subst hij
        have hlt := (Array.getElem?_eq_some_iff.1 hq).1
        exact ⟨p, by simp [hlt]⟩
      · exact ⟨q, by rw [Array.getElem?_setIfInBounds_ne (by omega)]; exact hq⟩
    · exact .inr ⟨g, c, cur, rfl, h1, h2.far (p := ⟨g', j * 19, none⟩) hg _, h3⟩
theorem PathRow.at {w : World} {base n c : Nat} {A : Option Addr} (h : PathRow w base (.slice A n c) n) {i : Nat} (hi : i < n) : ∃ g p, A = some ⟨g, 0, none⟩ ∧ base ≤ g ∧ w.cell? ⟨g, i * 19, none⟩ = some (.int .u32 p) ∧ w.frozen? ⟨g, i * 19, none⟩ = false := by
  rcases h with ⟨_, h0⟩ | ⟨g, c', cur, e, h1, h2, h3⟩
  · omega
  · injection e with e _ _
    obtain ⟨p, hp⟩ := h3 i hi
    exact ⟨g, p, e, h1, by rw [h2.cell]; exact hp, h2.frozen _⟩

end Go.Proofs.Ytkkfigdfgagimaa
