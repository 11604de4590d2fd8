/- The argument 'api.Verdict', opened. No condition. -/
import Derived.Test.YtknaogpkakdcoaaDoorOpen
import Derived.Test.YtknaogpkakdcoaaDoorProg
import Derived.KernelRfl
import Derived.Lib.SmallJoins
namespace Go.Proofs.YtknaogpkakdcoaaDoor
open Go.ChangeShapes Go.WideShapes Go.ChangeAt Go.RowKit
set_option linter.unusedVariables false

theorem open_bcs {H : Type} {enc : TypeId × Value → H} {W : World} {fuel : Nat} {cs : List Value} {x : DataW H × List MemPlace}
    (hf : DataW.trod enc Tryd.prog W 0 (fun _ => true) true fuel 22 cs = some x) : ∃ A n c xs, cs = [.slice A n c] ∧ InBytes W A n c xs := by
  rcases open_ints Tryd.underlying22 Tryd.underlying5 (by kernel_rfl) hf with ⟨hcs, _⟩ | ⟨x, l, c', zs, hcs, _, hl, hm, hz, _, hcell, hwz⟩
  · exact ⟨none, 0, 0, [], hcs, rfl, Nat.le_refl _, by simp [maxLen], Arr.nil _ _, IsB.nil⟩
  · have hz' : zs.length = c' := by simpa using hz
    refine ⟨some x, l, c', zs.take l, hcs, by simp; omega, hl, hm, fun _ => ⟨x, rfl, fun j u hu => ?_⟩, fun y hy => ?_⟩
    · have hj : j < l ∧ j < zs.length := by
        have := (List.getElem?_eq_some_iff.1 hu).1
        simp [bs] at this
        omega
      rw [hcell j hj.2, ← hu]
      simp [bs, hj.1, hj.2]
    · have := bounds_u8 (hwz y (List.mem_of_mem_take hy))
      omega

/-- A verdict that came in. -/
structure ArgV where
  k : Int
  c : Int
  s : Int
  d : List Int
  A : Option Addr
  m : Nat
  a : Int
def ArgV.val (z : ArgV) : Value := .agg #[.int .i64 z.k, .int .i64 z.c, .int .i64 z.s, .slice z.A z.d.length z.m, .int .i64 z.a]
def InV (w : World) (z : ArgV) : Prop := InBytes w z.A z.d.length z.m z.d ∧ (-9223372036854775808 ≤ z.k ∧ z.k ≤ 9223372036854775807) ∧ (-9223372036854775808 ≤ z.c ∧ z.c ≤ 9223372036854775807) ∧ (-9223372036854775808 ≤ z.s ∧ z.s ≤ 9223372036854775807) ∧ (-9223372036854775808 ≤ z.a ∧ z.a ≤ 9223372036854775807)

theorem open_ver_cs {H : Type} {enc : TypeId × Value → H} {W : World} {fuel : Nat} {cs : List Value} {x : DataW H × List MemPlace}
    (hf : DataW.trod enc Tryd.prog W 0 (fun _ => true) true fuel 24 cs = some x) : ∃ z : ArgV, cs = [.int .i64 z.k, .int .i64 z.c, .int .i64 z.s, .slice z.A z.d.length z.m, .int .i64 z.a] ∧ InV W z := by
  obtain ⟨ys, k, _, _, hl, hyl, hg⟩ := DataW.trod_struct Tryd.underlying24 hf
  have hl5 : cs.length = 5 := hl.trans (by kernel_rfl)
  match cs, hl5 with
  | [c0, c1, c2, c3, c4], _ =>
    have e : Tryd.prog.cellsOf 3 = 1 := by kernel_rfl
    have e' : Tryd.prog.cellsOf 22 = 1 := by kernel_rfl
    have g0 := hg 0 _ rfl
    have g1 := hg 1 _ rfl
    have g2 := hg 2 _ rfl
    have g3 := hg 3 _ rfl
    have g4 := hg 4 _ rfl
    simp [e, e'] at g0 g1 g2 g3 g4
    obtain ⟨a0, e0, _, w0⟩ := DataW.trod_int Tryd.underlying3 (g0.trans (List.getElem?_eq_getElem (by rw [hyl]; decide)))
    obtain ⟨a1, e1, _, w1⟩ := DataW.trod_int Tryd.underlying3 (g1.trans (List.getElem?_eq_getElem (by rw [hyl]; decide)))
    obtain ⟨a2, e2, _, w2⟩ := DataW.trod_int Tryd.underlying3 (g2.trans (List.getElem?_eq_getElem (by rw [hyl]; decide)))
    obtain ⟨A', n', m', xs, e3, hx⟩ := open_bcs (g3.trans (List.getElem?_eq_getElem (by rw [hyl]; decide)))
    obtain ⟨a4, e4, _, w4⟩ := DataW.trod_int Tryd.underlying3 (g4.trans (List.getElem?_eq_getElem (by rw [hyl]; decide)))
    simp at e0 e1 e2 e3 e4
    have hln := hx.1
    subst e0 e1 e2 e3 e4 hln
    exact ⟨⟨a0, a1, a2, xs, A', m', a4⟩, rfl, hx, bounds_i64 w0, bounds_i64 w1, bounds_i64 w2, bounds_i64 w4⟩

theorem open_arg24 {H : Type} {enc : TypeId × Value → H} {W : World} {r : Reach} {b0 : Nat} {v : Value} {d : DataW H} {p : List MemPlace}
    (hv : Value.okWide Tryd.prog W r b0 24 v) (h : DataW.Trod enc Tryd.prog W 0 (fun _ => true) true 24 v d p) : ∃ z : ArgV, v = z.val ∧ InV W z := by
  obtain ⟨cs, rfl, hsz⟩ := okWide_struct Tryd.underlying24 hv
  obtain ⟨fuel, hf⟩ := h
  obtain ⟨z, hz, hi⟩ := open_ver_cs hf
  obtain ⟨l⟩ := cs
  have hz' : l = [.int .i64 z.k, .int .i64 z.c, .int .i64 z.s, .slice z.A z.d.length z.m, .int .i64 z.a] := by simpa [Value.cells] using hz
  subst hz'
  exact ⟨z, rfl, hi⟩

end Go.Proofs.YtknaogpkakdcoaaDoor
