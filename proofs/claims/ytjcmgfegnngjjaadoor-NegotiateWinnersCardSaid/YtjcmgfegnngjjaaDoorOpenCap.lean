/- The argument '[]peerageref16.Cap' of chapter 16's laws, opened. No condition. -/
import Derived.Test.YtjcmgfegnngjjaaDoorOpen
import Derived.Test.YtjcmgfegnngjjaaDoorCapA
namespace Go.Proofs.YtjcmgfegnngjjaaDoor
open Go.ChangeShapes Go.WideShapes Go.ChangeAt Go.RowKit

/-- Capabilities that came in. -/
def InCaps (w : World) (A : Option Addr) (n c : Nat) (xs : List CapI) : Prop := xs.length = n ∧ n ≤ c ∧ c ≤ maxLen ∧ ∃ cs, CapL w xs cs ∧ Arr w A cs
def ECap (w : World) (x : CapI) (cs : List Value) : Prop := ∃ a b, cs = [a, b] ∧ CapAt w x a b
instance : Inhabited CapI := ⟨⟨0, []⟩⟩

set_option maxRecDepth 100000 in
theorem open_bytes_cs {H : Type} {enc : TypeId × Value → H} {W : World} {fuel : Nat} {cs : List Value} {x : DataW H × List MemPlace}
    (hf : DataW.trod enc Tryd.prog W 0 (fun _ => true) true fuel 43 cs = some x) : ∃ A n c xs, cs = [.slice A n c] ∧ InBytes W A n c xs := by
  rcases open_ints Tryd.underlying43 Tryd.underlying5 (by kernel_rfl) hf with ⟨hcs, _⟩ | ⟨x, l, c', zs, hcs, _, hl, hm, hz, _, hcell, hwz⟩
  · exact ⟨none, 0, 0, [], hcs, rfl, Nat.le_refl _, by simp [maxLen], Arr.nil _ _, IsB.nil⟩
  · have hz' : zs.length = c' := by simpa using hz
    refine ⟨some x, l, c', zs.take l, hcs, by simp; omega, hl, hm, fun _ => ⟨x, rfl, fun j u hu => ?_⟩, fun y hy => ?_⟩
    · have hj : j < l ∧ j < zs.length := by
        have := (List.getElem?_eq_some_iff.1 hu).1
        simp [bs] at this
        omega
      rw [hcell j hj.2, ← hu]
      simp [bs, hj.1, hj.2]
    · have := bounds_u8 (hwz y (List.mem_of_mem_take hy))
      omega

set_option maxRecDepth 100000 in
theorem caps_of_sl {w : World} {A : Option Addr} {xs : List CapI} (h : Sl ECap 2 w A xs) : ∃ cs, CapL w xs cs ∧ Arr w A cs := by
  have hc : ∀ j, ∃ p : Value × Value, ∀ x, xs[j]? = some x → CapAt w x p.1 p.2 ∧ ∃ ad, A = some ad ∧ w.cell? (ad.add (j * 2)) = some p.1 ∧ w.cell? (ad.add (j * 2 + 1)) = some p.2 := by
    intro j
    by_cases hj : j < xs.length
    · obtain ⟨ad, cs, e, _, ⟨a, b, rfl, h1⟩, h2⟩ := h.at (List.getElem?_eq_getElem hj)
      refine ⟨(a, b), fun x hx => ?_⟩
      rw [List.getElem?_eq_getElem hj] at hx
      injection hx with hx
      subst hx
      exact ⟨h1, ad, e, h2 0 a rfl, h2 1 b rfl⟩
    · exact ⟨(.bool false, .bool false), fun x hx => by rw [List.getElem?_eq_none (by omega)] at hx; cases hx⟩
  have ⟨p, hp⟩ := Classical.axiomOfChoice hc
  have hlen : (List.ofFn (n := 2 * xs.length) (fun i => if i.1 % 2 = 0 then (p (i.1 / 2)).1 else (p (i.1 / 2)).2)).length = 2 * xs.length := List.length_ofFn
  refine ⟨List.ofFn (n := 2 * xs.length) (fun i => if i.1 % 2 = 0 then (p (i.1 / 2)).1 else (p (i.1 / 2)).2), ⟨hlen, fun j x hx => ?_⟩, fun hn => ?_⟩
  · have hj := (List.getElem?_eq_some_iff.1 hx).1
    refine ⟨(p j).1, (p j).2, ?_, ?_, (hp j x hx).1⟩
    · rw [List.getElem?_ofFn, dif_pos (by omega)]
      simp
    · rw [List.getElem?_ofFn, dif_pos (by omega)]
      have e1 : (2 * j + 1) / 2 = j := by omega
      have e2 : (2 * j + 1) % 2 = 1 := by omega
      simp [e1, e2]
  · have hn0 : xs ≠ [] := by
      rintro rfl
      exact hn (by simp)
    obtain ⟨ad, e, _⟩ := h hn0
    refine ⟨ad, e, fun i u hu => ?_⟩
    have hi := (List.getElem?_eq_some_iff.1 hu).1
    rw [hlen] at hi
    rw [List.getElem?_ofFn, dif_pos hi] at hu
    have hj : i / 2 < xs.length := by omega
    obtain ⟨_, ad', e', h1, h2⟩ := hp (i / 2) _ (List.getElem?_eq_getElem hj)
    rw [e] at e'
    injection e' with e'
    subst e'
    rcases Nat.mod_two_eq_zero_or_one i with h0 | h0
    · simp only [h0, if_true] at hu
      rw [← hu, ← h1, show i / 2 * 2 = i by omega]
    · simp only [h0, if_neg (show ¬ (1 = 0) by decide)] at hu
      rw [← hu, ← h2, show i / 2 * 2 + 1 = i by omega]

set_option maxRecDepth 100000 in
set_option maxRecDepth 100000 in
theorem open_caps_cs {H : Type} {enc : TypeId × Value → H} {W : World} {fuel : Nat} {cs : List Value} {x : DataW H × List MemPlace}
    (hf : DataW.trod enc Tryd.prog W 0 (fun _ => true) true fuel 23 cs = some x) : ∃ A n c, cs = [.slice A n c] ∧ n ≤ c ∧ c ≤ maxLen ∧ ∃ xs : List CapI, xs.length = n ∧ Sl ECap 2 W A xs := by
  exact open_sl (α := CapI) Tryd.underlying23 2 (by kernel_rfl) ECap (fun fuel cs x hx => by
    obtain ⟨ys, k, _, _, hl, hyl, hg⟩ := DataW.trod_struct Tryd.underlying45 hx
    have hl2 : cs.length = 2 := hl.trans (by kernel_rfl)
    match cs, hl2 with
    | [v0, v1], _ =>
      have g0 := hg 0 _ rfl
      have g1 := hg 1 _ rfl
      have e3 : Tryd.prog.cellsOf 3 = 1 := by kernel_rfl
      have e4 : Tryd.prog.cellsOf 43 = 1 := by kernel_rfl
      simp [e3, e4] at g0 g1
      obtain ⟨a, ea, _, wa⟩ := DataW.trod_int Tryd.underlying3 (g0.trans (List.getElem?_eq_getElem (by rw [hyl]; decide)))
      obtain ⟨B, m, e, bs', eb, hb1, hb2, hb3, hb4, hb5⟩ := open_bytes_cs (g1.trans (List.getElem?_eq_getElem (by rw [hyl]; decide)))
      simp at ea eb
      subst hb1
      have := bounds_i64 wa
      exact ⟨⟨a, bs'⟩, v0, v1, rfl, by rw [ea], by simp; omega, B, e, by rw [eb], hb2, hb3, hb4, hb5⟩) hf

set_option maxRecDepth 100000 in
set_option maxRecDepth 100000 in
theorem open_arg23 {H : Type} {enc : TypeId × Value → H} {W : World} {A : Option Addr} {n c : Nat} {d : DataW H} {p : List MemPlace}
    (h : DataW.Trod enc Tryd.prog W 0 (fun _ => true) true 23 (.slice A n c) d p) : ∃ xs, InCaps W A n c xs := by
  obtain ⟨fuel, hf⟩ := h
  obtain ⟨A', n', c', hcs, h1, h2, xs, h3, h4⟩ := open_caps_cs hf
  simp [Value.cells] at hcs
  obtain ⟨rfl, rfl, rfl⟩ := hcs
  exact ⟨xs, h3, h1, h2, caps_of_sl h4⟩

end Go.Proofs.YtjcmgfegnngjjaaDoor
