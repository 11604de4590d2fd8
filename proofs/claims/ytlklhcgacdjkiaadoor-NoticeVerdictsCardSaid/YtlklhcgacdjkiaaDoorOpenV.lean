/- The arguments 'api.Options' and 'api.Verdict', opened. No condition. -/
import Derived.Test.YtlklhcgacdjkiaaDoorOpenN
namespace Go.Proofs.YtlklhcgacdjkiaaDoor
open Go.ChangeShapes Go.WideShapes Go.ChangeAt Go.RowKit
set_option linter.unusedVariables false

/-- Options that came in. -/
structure ArgO6 where
  b0 : Bool
  b1 : Bool
  b2 : Bool
  b3 : Bool
  b4 : Bool
  b5 : Bool
def ArgO6.val (z : ArgO6) : Value := .agg #[.bool z.b0, .bool z.b1, .bool z.b2, .bool z.b3, .bool z.b4, .bool z.b5]

theorem open_arg26 {H : Type} {enc : TypeId × Value → H} {W : World} {r : Reach} {b0 : Nat} {v : Value} {d : DataW H} {p : List MemPlace}
    (hv : Value.okWide Tryd.prog W r b0 26 v) (h : DataW.Trod enc Tryd.prog W 0 (fun _ => true) true 26 v d p) : ∃ z : ArgO6, v = z.val ∧ True := by
  obtain ⟨cs, rfl, hsz⟩ := okWide_struct Tryd.underlying26 hv
  obtain ⟨l⟩ := cs
  have hsz6 : l.length = 6 := hsz.trans (by kernel_rfl)
  match l, hsz6 with
  | [c0, c1, c2, c3, c4, c5], _ =>
    obtain ⟨fuel, hf⟩ := h
    obtain ⟨ys, k, _, _, _, hyl, hg⟩ := DataW.trod_struct Tryd.underlying26 hf
    have e : Tryd.prog.cellsOf 4 = 1 := by kernel_rfl
    have g0 := hg 0 _ rfl
    have g1 := hg 1 _ rfl
    have g2 := hg 2 _ rfl
    have g3 := hg 3 _ rfl
    have g4 := hg 4 _ rfl
    have g5 := hg 5 _ rfl
    simp [Value.cells, e] at g0 g1 g2 g3 g4 g5
    obtain ⟨a0, e0, _⟩ := DataW.trod_bool Tryd.underlying4 (g0.trans (List.getElem?_eq_getElem (by rw [hyl]; decide)))
    obtain ⟨a1, e1, _⟩ := DataW.trod_bool Tryd.underlying4 (g1.trans (List.getElem?_eq_getElem (by rw [hyl]; decide)))
    obtain ⟨a2, e2, _⟩ := DataW.trod_bool Tryd.underlying4 (g2.trans (List.getElem?_eq_getElem (by rw [hyl]; decide)))
    obtain ⟨a3, e3, _⟩ := DataW.trod_bool Tryd.underlying4 (g3.trans (List.getElem?_eq_getElem (by rw [hyl]; decide)))
    obtain ⟨a4, e4, _⟩ := DataW.trod_bool Tryd.underlying4 (g4.trans (List.getElem?_eq_getElem (by rw [hyl]; decide)))
    obtain ⟨a5, e5, _⟩ := DataW.trod_bool Tryd.underlying4 (g5.trans (List.getElem?_eq_getElem (by rw [hyl]; decide)))
    simp at e0 e1 e2 e3 e4 e5
    subst e0 e1 e2 e3 e4 e5
    exact ⟨⟨a0, a1, a2, a3, a4, a5⟩, rfl, trivial⟩

/-- A verdict that came in. -/
structure ArgV where
  k : Int
  c : Int
  s : Int
  d : List Int
  A : Option Addr
  m : Nat
  a : Int
def ArgV.val (z : ArgV) : Value := .agg #[.int .i64 z.k, .int .i64 z.c, .int .i64 z.s, .slice z.A z.d.length z.m, .int .i64 z.a]
def InV (w : World) (z : ArgV) : Prop := InBytes w z.A z.d.length z.m z.d ∧ (-9223372036854775808 ≤ z.k ∧ z.k ≤ 9223372036854775807) ∧ (-9223372036854775808 ≤ z.c ∧ z.c ≤ 9223372036854775807) ∧ (-9223372036854775808 ≤ z.s ∧ z.s ≤ 9223372036854775807) ∧ (-9223372036854775808 ≤ z.a ∧ z.a ≤ 9223372036854775807)

theorem open_ver_cs {H : Type} {enc : TypeId × Value → H} {W : World} {fuel : Nat} {cs : List Value} {x : DataW H × List MemPlace}
    (hf : DataW.trod enc Tryd.prog W 0 (fun _ => true) true fuel 29 cs = some x) : ∃ z : ArgV, cs = [.int .i64 z.k, .int .i64 z.c, .int .i64 z.s, .slice z.A z.d.length z.m, .int .i64 z.a] ∧ InV W z := by
  obtain ⟨ys, k, _, _, hl, hyl, hg⟩ := DataW.trod_struct Tryd.underlying29 hf
  have hl5 : cs.length = 5 := hl.trans (by kernel_rfl)
  match cs, hl5 with
  | [c0, c1, c2, c3, c4], _ =>
    have e : Tryd.prog.cellsOf 3 = 1 := by kernel_rfl
    have e' : Tryd.prog.cellsOf 27 = 1 := by kernel_rfl
    have g0 := hg 0 _ rfl
    have g1 := hg 1 _ rfl
    have g2 := hg 2 _ rfl
    have g3 := hg 3 _ rfl
    have g4 := hg 4 _ rfl
    simp [e, e'] at g0 g1 g2 g3 g4
    obtain ⟨a0, e0, _, w0⟩ := DataW.trod_int Tryd.underlying3 (g0.trans (List.getElem?_eq_getElem (by rw [hyl]; decide)))
    obtain ⟨a1, e1, _, w1⟩ := DataW.trod_int Tryd.underlying3 (g1.trans (List.getElem?_eq_getElem (by rw [hyl]; decide)))
    obtain ⟨a2, e2, _, w2⟩ := DataW.trod_int Tryd.underlying3 (g2.trans (List.getElem?_eq_getElem (by rw [hyl]; decide)))
    obtain ⟨A', n', m', xs, e3, hx⟩ := open_bcs (g3.trans (List.getElem?_eq_getElem (by rw [hyl]; decide)))
    obtain ⟨a4, e4, _, w4⟩ := DataW.trod_int Tryd.underlying3 (g4.trans (List.getElem?_eq_getElem (by rw [hyl]; decide)))
    simp at e0 e1 e2 e3 e4
    have hln := hx.1
    subst e0 e1 e2 e3 e4 hln
    exact ⟨⟨a0, a1, a2, xs, A', m', a4⟩, rfl, hx, bounds_i64 w0, bounds_i64 w1, bounds_i64 w2, bounds_i64 w4⟩

theorem open_arg29 {H : Type} {enc : TypeId × Value → H} {W : World} {r : Reach} {b0 : Nat} {v : Value} {d : DataW H} {p : List MemPlace}
    (hv : Value.okWide Tryd.prog W r b0 29 v) (h : DataW.Trod enc Tryd.prog W 0 (fun _ => true) true 29 v d p) : ∃ z : ArgV, v = z.val ∧ InV W z := by
  obtain ⟨cs, rfl, hsz⟩ := okWide_struct Tryd.underlying29 hv
  obtain ⟨fuel, hf⟩ := h
  obtain ⟨z, hz, hi⟩ := open_ver_cs hf
  obtain ⟨l⟩ := cs
  have hz' : l = [.int .i64 z.k, .int .i64 z.c, .int .i64 z.s, .slice z.A z.d.length z.m, .int .i64 z.a] := by simpa [Value.cells] using hz
  subst hz'
  exact ⟨z, rfl, hi⟩

end Go.Proofs.YtlklhcgacdjkiaaDoor
