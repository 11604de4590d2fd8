/- A head by value that came in: three numbers. -/
import Derived.Test.YthdipbabfilciaaOpen
import Derived.Lib.SmallJoins
namespace Go.Proofs.Ythdipbabfilciaa
open Go.ChangeShapes Go.WideShapes Go.ChangeAt Go.RowKit

/-- Three numbers of the kind int. -/
structure Three where
  a : Int
  b : Int
  c : Int
def Three.val (z : Three) : Value := .agg #[.int .i64 z.a, .int .i64 z.b, .int .i64 z.c]
def Three.Wf (z : Three) : Prop := (Lit.int .i64 z.a).wf = true ∧ (Lit.int .i64 z.b).wf = true ∧ (Lit.int .i64 z.c).wf = true

theorem open_arg23 {H : Type} {enc : TypeId × Value → H} {W : World} {r : Reach} {b0 : Nat} {v : Value} {d : DataW H} {p : List MemPlace}
    (hv : Value.okWide Try.prog W r b0 23 v) (h : DataW.Trod enc Try.prog W 0 (fun _ => true) true 23 v d p) : ∃ z : Three, v = z.val ∧ z.Wf := by
  obtain ⟨v0, v1, v2, y0, y1, y2, n, rfl, _, _, h0, h1, h2⟩ := Joins.open_agg3 Try.underlying23 (by kernel_rfl) (by kernel_rfl) hv h
  obtain ⟨a, e0, _, w0⟩ := DataW.trod_int Try.underlying3 h0
  obtain ⟨b, e1, _, w1⟩ := DataW.trod_int Try.underlying3 h1
  obtain ⟨c, e2, _, w2⟩ := DataW.trod_int Try.underlying3 h2
  injection e0 with e0; injection e1 with e1; injection e2 with e2
  subst e0 e1 e2
  exact ⟨⟨a, b, c⟩, rfl, w0, w1, w2⟩

end Go.Proofs.Ythdipbabfilciaa
