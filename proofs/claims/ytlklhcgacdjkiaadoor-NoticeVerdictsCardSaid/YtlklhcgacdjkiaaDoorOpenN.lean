/- The argument 'peerageref18.Notice' of chapter 18's laws, opened. No condition. -/
import Derived.Test.YtlklhcgacdjkiaaDoorOpen
import Derived.Test.YtlklhcgacdjkiaaDoorNotA
import Derived.Lib.SmallJoins
namespace Go.Proofs.YtlklhcgacdjkiaaDoor
open Go.ChangeShapes Go.WideShapes Go.ChangeAt Go.RowKit
set_option linter.unusedVariables false

theorem open_bcs {H : Type} {enc : TypeId × Value → H} {W : World} {fuel : Nat} {cs : List Value} {x : DataW H × List MemPlace}
    (hf : DataW.trod enc Tryd.prog W 0 (fun _ => true) true fuel 27 cs = some x) : ∃ A n c xs, cs = [.slice A n c] ∧ InBytes W A n c xs := by
  rcases open_ints Tryd.underlying27 Tryd.underlying5 (by kernel_rfl) hf with ⟨hcs, _⟩ | ⟨x, l, c', zs, hcs, _, hl, hm, hz, _, hcell, hwz⟩
  · exact ⟨none, 0, 0, [], hcs, rfl, Nat.le_refl _, by simp [maxLen], Arr.nil _ _, IsB.nil⟩
  · have hz' : zs.length = c' := by simpa using hz
    refine ⟨some x, l, c', zs.take l, hcs, by simp; omega, hl, hm, fun _ => ⟨x, rfl, fun j u hu => ?_⟩, fun y hy => ?_⟩
    · have hj : j < l ∧ j < zs.length := by
        have := (List.getElem?_eq_some_iff.1 hu).1
        simp [bs] at this
        omega
      rw [hcell j hj.2, ← hu]
      simp [bs, hj.1, hj.2]
    · have := bounds_u8 (hwz y (List.mem_of_mem_take hy))
      omega

/-- A NOTIFICATION that came in. -/
structure ArgN where
  c : Int
  s : Int
  d : List Int
  A : Option Addr
  m : Nat
def ArgN.val (z : ArgN) : Value := .agg #[.int .i64 z.c, .int .i64 z.s, .slice z.A z.d.length z.m]
def InN (w : World) (z : ArgN) : Prop := InBytes w z.A z.d.length z.m z.d ∧ (-9223372036854775808 ≤ z.c ∧ z.c ≤ 9223372036854775807) ∧ (-9223372036854775808 ≤ z.s ∧ z.s ≤ 9223372036854775807)

theorem open_arg35 {H : Type} {enc : TypeId × Value → H} {W : World} {r : Reach} {b0 : Nat} {v : Value} {d : DataW H} {p : List MemPlace}
    (hv : Value.okWide Tryd.prog W r b0 35 v) (h : DataW.Trod enc Tryd.prog W 0 (fun _ => true) true 35 v d p) : ∃ z : ArgN, v = z.val ∧ InN W z := by
  obtain ⟨v0, v1, v2, y0, y1, y2, n, rfl, _, _, h0, h1, h2⟩ := Joins.open_agg3 Tryd.underlying35 (by kernel_rfl) (by kernel_rfl) hv h
  obtain ⟨a, e0, _, w0⟩ := DataW.trod_int Tryd.underlying3 h0
  obtain ⟨b, e1, _, w1⟩ := DataW.trod_int Tryd.underlying3 h1
  injection e0 with e0; injection e1 with e1
  obtain ⟨A', n', c', xs, hcs, hx⟩ := open_bcs h2
  injection hcs with hcs
  have hl := hx.1
  subst e0 e1 hcs hl
  exact ⟨⟨a, b, xs, A', c'⟩, rfl, hx, bounds_i64 w0, bounds_i64 w1⟩

end Go.Proofs.YtlklhcgacdjkiaaDoor
