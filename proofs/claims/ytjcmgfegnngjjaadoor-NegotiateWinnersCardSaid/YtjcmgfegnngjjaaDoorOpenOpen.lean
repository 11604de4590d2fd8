/- An OPEN by value that came in. -/
import Derived.Test.YtjcmgfegnngjjaaDoorOpenCap
import Derived.Test.YtjcmgfegnngjjaaDoorOpC
import Derived.Lib.SmallJoins
namespace Go.Proofs.YtjcmgfegnngjjaaDoor
open Go.ChangeShapes Go.WideShapes Go.ChangeAt Go.RowKit
set_option linter.unusedVariables false

/-- An OPEN that came in. -/
structure ArgO where
  o : OpenI
  A : Option Addr
  c : Nat
def ArgO.val (z : ArgO) : Value := z.o.val z.A z.c
def InOpen (w : World) (z : ArgO) : Prop := z.o.B ∧ z.o.caps.length ≤ z.c ∧ z.c ≤ maxLen ∧ ∃ cs, CapL w z.o.caps cs ∧ Arr w z.A cs

set_option maxRecDepth 100000 in
theorem open_arg25 {H : Type} {enc : TypeId × Value → H} {W : World} {r : Reach} {b0 : Nat} {v : Value} {d : DataW H} {p : List MemPlace}
    (hv : Value.okWide Tryd.prog W r b0 25 v) (h : DataW.Trod enc Tryd.prog W 0 (fun _ => true) true 25 v d p) : ∃ z : ArgO, v = z.val ∧ InOpen W z := by
  obtain ⟨v0, v1, v2, v3, y0, y1, y2, y3, n, rfl, _, _, h0, h1, h2, h3⟩ := Joins.open_agg4 Tryd.underlying25 (by kernel_rfl) (by kernel_rfl) hv h
  obtain ⟨a, e0, _, w0⟩ := DataW.trod_int Tryd.underlying22 h0
  obtain ⟨b, e1, _, w1⟩ := DataW.trod_int Tryd.underlying3 h1
  obtain ⟨c, e2, _, w2⟩ := DataW.trod_int Tryd.underlying22 h2
  injection e0 with e0; injection e1 with e1; injection e2 with e2
  obtain ⟨A', n', c', hcs, hn, hc, xs, hxl, hsl⟩ := open_caps_cs h3
  injection hcs with hcs
  subst e0 e1 e2 hcs hxl
  have := bounds_u32 w0
  have := bounds_i64 w1
  have := bounds_u32 w2
  exact ⟨⟨⟨a, b, c, xs⟩, A', c'⟩, rfl, ⟨by simp only; omega, by simp only; omega, by simp only; omega⟩, hn, hc, caps_of_sl hsl⟩

end Go.Proofs.YtjcmgfegnngjjaaDoor
