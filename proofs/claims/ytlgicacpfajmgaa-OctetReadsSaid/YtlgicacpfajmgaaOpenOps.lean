/- The argument '[]Op' of chapter 1's laws, opened. No condition. -/
import Derived.Test.YtlgicacpfajmgaaOpen
namespace Go.Proofs.Ytlgicacpfajmgaa
open Go.ChangeShapes Go.WideShapes Go.ChangeAt Go.RowKit

/-- A read, as cells. -/
def opC (p : Int × Int) : List Value := [.int .i64 p.1, .int .i64 p.2]
def InOps (w : World) (A : Option Addr) (n c : Nat) (xs : List (Int × Int)) : Prop := xs.length = n ∧ n ≤ c ∧ c ≤ maxLen ∧ Sl (Flat opC) 2 w A xs

theorem open_arg37 {H : Type} {enc : TypeId × Value → H} {W : World} {A : Option Addr} {n c : Nat} {d : DataW H} {p : List MemPlace}
    (h : DataW.Trod enc Try.prog W 0 (fun _ => true) true 37 (.slice A n c) d p) : ∃ xs, InOps W A n c xs := by
  obtain ⟨fuel, hf⟩ := h
  obtain ⟨A', n', c', hcs, h1, h2, xs, h3, h4⟩ := open_sl (α := Int × Int) Try.underlying37 2 (by kernel_rfl) (Flat opC) (fun fuel cs x hx => by
    obtain ⟨ys, k, _, _, hl, hyl, hg⟩ := DataW.trod_struct Try.underlying41 hx
    have hl2 : cs.length = 2 := hl.trans (by kernel_rfl)
    match cs, hl2 with
    | [v0, v1], _ =>
      have g0 := hg 0 _ rfl
      have g1 := hg 1 _ rfl
      have e3 : Try.prog.cellsOf 3 = 1 := by kernel_rfl
      simp [e3] at g0 g1
      obtain ⟨a, ea, _, _⟩ := DataW.trod_int Try.underlying3 (g0.trans (List.getElem?_eq_getElem (by rw [hyl]; decide)))
      obtain ⟨b, eb, _, _⟩ := DataW.trod_int Try.underlying3 (g1.trans (List.getElem?_eq_getElem (by rw [hyl]; decide)))
      simp at ea eb
      exact ⟨(a, b), by simp [Flat, opC, ea, eb]⟩) hf
  simp [Value.cells] at hcs
  obtain ⟨rfl, rfl, rfl⟩ := hcs
  exact ⟨xs, h3, h1, h2, h4⟩

end Go.Proofs.Ytlgicacpfajmgaa
