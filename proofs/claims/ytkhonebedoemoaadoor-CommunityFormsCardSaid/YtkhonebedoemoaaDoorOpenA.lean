/- The arguments 'api.Attr' and '[]uint32', opened. No condition. -/
import Derived.Test.YtkhonebedoemoaaDoorOpen
import Derived.Test.YtkhonebedoemoaaDoorBasC
namespace Go.Proofs.YtkhonebedoemoaaDoor
open Go.ChangeShapes Go.WideShapes Go.ChangeAt Go.RowKit
set_option linter.unusedVariables false

/-- A segment's cells. -/
def SegE (w : World) (_ : Unit) (cs : List Value) : Prop := ∃ k A n c, cs = [.int .i64 k, .slice A n c] ∧ n ≤ maxLen
theorem SegE.and {w w' : World} : ∀ x cs, SegE w x cs → SegE w' x cs := fun _ _ h => h
/-- The bounds of an attribute that came in. -/
structure AtI.In (z : AtI) : Prop where
  t : -9223372036854775808 ≤ z.t ∧ z.t ≤ 9223372036854775807
  n : 0 ≤ z.n ∧ z.n < 4294967296
  m : 0 ≤ z.m ∧ z.m < 4294967296
  f : -9223372036854775808 ≤ z.f ∧ z.f ≤ 9223372036854775807
  l : z.sn ≤ maxLen ∧ z.ln ≤ maxLen ∧ z.bn ≤ maxLen ∧ z.rn ≤ maxLen
/-- An attribute that is small. -/
def AtI.small (z : AtI) : Prop := z.sn ≤ 50 ∧ z.ln ≤ 300 ∧ z.bn ≤ 600 ∧ z.rn ≤ 100
theorem AtI.In.ok {z : AtI} (h : z.In) (s : z.small) : z.Ok := ⟨h.t, h.n, h.m, h.f, by unfold AtI.small at s; omega⟩
/-- An attribute that came in. -/
def InAt (w : World) (z : AtI) : Prop := z.In ∧ ∃ xs : List Unit, xs.length = z.sn ∧ Sl SegE 2 w z.S xs
theorem InAt.and {w w' : World} {z : AtI} (h : InAt w z) (k : Kp NoB w w') : InAt w' z := by
  obtain ⟨h1, xs, h2, h3⟩ := h
  exact ⟨h1, xs, h2, h3.and k SegE.and⟩

/-- Numbers that came in. -/
def InUs (w : World) (A : Option Addr) (n c : Nat) (xs : List Int) : Prop := xs.length = n ∧ n ≤ c ∧ c ≤ maxLen ∧ Arr w A (us xs) ∧ IsU xs
theorem InUs.and {w w' : World} {A : Option Addr} {n c : Nat} {xs : List Int} (h : InUs w A n c xs) (k : Kp NoB w w') : InUs w' A n c xs := ⟨h.1, h.2.1, h.2.2.1, h.2.2.2.1.and k, h.2.2.2.2⟩
/-- An attribute that came in, its list told. -/
def InAt9 (w : World) (z : AtI) : Prop := InAt w z ∧ ∃ xs, InUs w z.L z.ln z.lc xs
set_option maxRecDepth 100000 in
theorem open_us_cs {H : Type} {enc : TypeId × Value → H} {W : World} {fuel : Nat} {cs : List Value} {x : DataW H × List MemPlace}
    (hf : DataW.trod enc Tryd.prog W 0 (fun _ => true) true fuel 24 cs = some x) : ∃ A n c xs, cs = [.slice A n c] ∧ InUs W A n c xs := by
  rcases open_ints Tryd.underlying24 Tryd.underlying22 (by kernel_rfl) hf with ⟨hcs, _⟩ | ⟨x, l, c', zs, hcs, _, hl, hm, hz, _, hcell, hwz⟩
  · exact ⟨none, 0, 0, [], hcs, rfl, Nat.le_refl _, by simp [maxLen], Arr.nil _ _, (fun x hx => nomatch hx)⟩
  · have hz' : zs.length = c' := by simpa using hz
    refine ⟨some x, l, c', zs.take l, hcs, by simp; omega, hl, hm, fun _ => ⟨x, rfl, fun j u hu => ?_⟩, fun y hy => ?_⟩
    · have hj : j < l ∧ j < zs.length := by
        have := (List.getElem?_eq_some_iff.1 hu).1
        simp [us] at this
        omega
      rw [hcell j hj.2, ← hu]
      simp [us, hj.1, hj.2]
    · have := bounds_u32 (hwz y (List.mem_of_mem_take hy))
      omega

set_option maxRecDepth 100000 in
theorem open_any {H : Type} {enc : TypeId × Value → H} {W : World} {t e : TypeId} (ht : Tryd.prog.underlying t = some (.slice e)) {fuel : Nat} {cs : List Value} {x : DataW H × List MemPlace}
    (h : DataW.trod enc Tryd.prog W 0 (fun _ => true) true fuel t cs = some x) : ∃ A n c, cs = [.slice A n c] ∧ n ≤ maxLen := by
  obtain ⟨A, n, c, h1, h2, h3, _⟩ := open_sl (α := Unit) ht _ rfl (fun _ _ _ => True) (fun _ _ _ _ => ⟨(), trivial⟩) h
  exact ⟨A, n, c, h1, Nat.le_trans h2 h3⟩

set_option maxRecDepth 100000 in
theorem open_seg {H : Type} {enc : TypeId × Value → H} {W : World} (fuel : Nat) (cs : List Value) (x : DataW H × List MemPlace)
    (hf : DataW.trod enc Tryd.prog W 0 (fun _ => true) true fuel 71 cs = some x) : ∃ a, SegE W a cs := by
  obtain ⟨ys, k, _, _, hl, hyl, hg⟩ := DataW.trod_struct Tryd.underlying71 hf
  have hl2 : cs.length = 2 := hl.trans (by kernel_rfl)
  match cs, hl2 with
  | [c0, c1], _ =>
    have e : Tryd.prog.cellsOf 3 = 1 := by kernel_rfl
    have e' : Tryd.prog.cellsOf 24 = 1 := by kernel_rfl
    have g0 := hg 0 _ rfl
    have g1 := hg 1 _ rfl
    simp [e, e'] at g0 g1
    obtain ⟨a0, e0, _, w0⟩ := DataW.trod_int Tryd.underlying3 (g0.trans (List.getElem?_eq_getElem (by rw [hyl]; decide)))
    obtain ⟨A, n, c, e1, hn⟩ := open_any Tryd.underlying24 (g1.trans (List.getElem?_eq_getElem (by rw [hyl]; decide)))
    simp at e0 e1
    subst e0 e1
    exact ⟨(), a0, A, n, c, rfl, hn⟩

set_option maxRecDepth 100000 in
theorem open_arg28 {H : Type} {enc : TypeId × Value → H} {W : World} {r : Reach} {b0 : Nat} {v : Value} {d : DataW H} {p : List MemPlace}
    (hv : Value.okWide Tryd.prog W r b0 28 v) (h : DataW.Trod enc Tryd.prog W 0 (fun _ => true) true 28 v d p) : ∃ z : AtI, v = z.val ∧ InAt9 W z := by
  obtain ⟨cs, rfl, hsz⟩ := okWide_struct Tryd.underlying28 hv
  obtain ⟨l⟩ := cs
  have hsz9 : l.length = 9 := hsz.trans (by kernel_rfl)
  match l, hsz9 with
  | [c0, c1, c2, c3, c4, c5, c6, c7, c8], _ =>
    obtain ⟨fuel, hf⟩ := h
    obtain ⟨ys, k, _, _, _, hyl, hg⟩ := DataW.trod_struct Tryd.underlying28 hf
    have e0 : Tryd.prog.cellsOf 3 = 1 := by kernel_rfl
    have e1 : Tryd.prog.cellsOf 4 = 1 := by kernel_rfl
    have e2 : Tryd.prog.cellsOf 22 = 1 := by kernel_rfl
    have e3 : Tryd.prog.cellsOf 23 = 1 := by kernel_rfl
    have e4 : Tryd.prog.cellsOf 24 = 1 := by kernel_rfl
    have e5 : Tryd.prog.cellsOf 25 = 1 := by kernel_rfl
    have e6 : Tryd.prog.cellsOf 26 = 1 := by kernel_rfl
    have g0 := hg 0 _ rfl
    have g1 := hg 1 _ rfl
    have g2 := hg 2 _ rfl
    have g3 := hg 3 _ rfl
    have g4 := hg 4 _ rfl
    have g5 := hg 5 _ rfl
    have g6 := hg 6 _ rfl
    have g7 := hg 7 _ rfl
    have g8 := hg 8 _ rfl
    simp [Value.cells, e0, e1, e2, e3, e4, e5, e6] at g0 g1 g2 g3 g4 g5 g6 g7 g8
    obtain ⟨a0, q0, _, w0⟩ := DataW.trod_int Tryd.underlying3 (g0.trans (List.getElem?_eq_getElem (by rw [hyl]; decide)))
    obtain ⟨a1, q1, _⟩ := DataW.trod_bool Tryd.underlying4 (g1.trans (List.getElem?_eq_getElem (by rw [hyl]; decide)))
    obtain ⟨a2, q2, _, w2⟩ := DataW.trod_int Tryd.underlying22 (g2.trans (List.getElem?_eq_getElem (by rw [hyl]; decide)))
    obtain ⟨a3, q3, _, w3⟩ := DataW.trod_int Tryd.underlying22 (g3.trans (List.getElem?_eq_getElem (by rw [hyl]; decide)))
    obtain ⟨S, sn, sc, q4, hs1, hs2, xs, hxs, hS⟩ := open_sl (α := Unit) Tryd.underlying23 2 (by kernel_rfl) SegE open_seg (g4.trans (List.getElem?_eq_getElem (by rw [hyl]; decide)))
    obtain ⟨L, ln, lc, us', q5, hU⟩ := open_us_cs (g5.trans (List.getElem?_eq_getElem (by rw [hyl]; decide)))
    obtain ⟨B, bn, bc, q6, hB⟩ := open_any Tryd.underlying25 (g6.trans (List.getElem?_eq_getElem (by rw [hyl]; decide)))
    obtain ⟨a7, q7, _, w7⟩ := DataW.trod_int Tryd.underlying3 (g7.trans (List.getElem?_eq_getElem (by rw [hyl]; decide)))
    obtain ⟨R, rn, rc, q8, hR⟩ := open_any Tryd.underlying26 (g8.trans (List.getElem?_eq_getElem (by rw [hyl]; decide)))
    simp at q0 q1 q2 q3 q4 q5 q6 q7 q8
    subst q0 q1 q2 q3 q4 q5 q6 q7 q8
    have b2 := bounds_u32 w2
    have b3 := bounds_u32 w3
    exact ⟨⟨a0, a1, a2, a3, S, sn, sc, L, ln, lc, B, bn, bc, a7, R, rn, rc⟩, rfl, ⟨⟨bounds_i64 w0, ⟨by simp only; omega, by simp only; omega⟩, ⟨by simp only; omega, by simp only; omega⟩, bounds_i64 w7, ⟨Nat.le_trans hs1 hs2, Nat.le_trans hU.2.1 hU.2.2.1, hB, hR⟩⟩, xs, hxs, hS⟩, us', hU⟩

set_option maxRecDepth 100000 in
theorem open_arg24 {H : Type} {enc : TypeId × Value → H} {W : World} {A : Option Addr} {n c : Nat} {d : DataW H} {p : List MemPlace}
    (h : DataW.Trod enc Tryd.prog W 0 (fun _ => true) true 24 (.slice A n c) d p) : ∃ xs, InUs W A n c xs := by
  obtain ⟨fuel, hf⟩ := h
  obtain ⟨A', n', c', xs, hcs, hx⟩ := open_us_cs hf
  simp [Value.cells] at hcs
  obtain ⟨rfl, rfl, rfl⟩ := hcs
  exact ⟨xs, hx⟩

end Go.Proofs.YtkhonebedoemoaaDoor
