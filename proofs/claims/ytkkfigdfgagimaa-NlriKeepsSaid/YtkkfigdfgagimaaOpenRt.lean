/- The argument '[]api.Route' of chapter 3's laws, opened. No condition. -/
import Derived.Test.YtkkfigdfgagimaaOpen
import Derived.Test.YtkkfigdfgagimaaNlB
namespace Go.Proofs.Ytkkfigdfgagimaa
open Go.ChangeShapes Go.WideShapes Go.ChangeAt Go.RowKit

/-- Routes that came in. -/
def InRts (w : World) (A : Option Addr) (n c : Nat) (xs : List RtI) : Prop := xs.length = n ∧ n ≤ c ∧ c ≤ maxLen ∧ RtL w A xs
instance : Inhabited RtI := ⟨⟨0, ⟨0, 0, []⟩⟩⟩

theorem open_ad {H : Type} {enc : TypeId × Value → H} {W : World} {fuel : Nat} {cs : List Value} {x : DataW H × List MemPlace}
    (h : DataW.trod enc Try.prog W 0 (fun _ => true) true fuel 27 cs = some x) : ∃ a, cs = bs a ∧ a.length = 16 ∧ IsB a := by
  obtain ⟨ys, m, _, _, hl, hyl, hg⟩ := DataW.trod_array Try.underlying27 h
  have hl16 : cs.length = 16 := hl.trans (by kernel_rfl)
  have e1 : Try.prog.cellsOf 5 = 1 := by kernel_rfl
  have each : ∀ i, i < 16 → ∃ q : Int, cs[i]? = some (.int .u8 q) ∧ 0 ≤ q ∧ q < 256 := by
    intro i hi
    have g := hg i hi
    rw [e1, Nat.mul_one] at g
    obtain ⟨a, ea, _, wa⟩ := DataW.trod_int Try.underlying5 (g.trans (List.getElem?_eq_getElem (by omega)))
    have hb := bounds_u8 wa
    refine ⟨a, ?_, by omega, by omega⟩
    have h0 := congrArg (fun (l : List Value) => l[0]?) ea
    simp only [List.getElem?_take, List.getElem?_drop] at h0
    simpa using h0
  obtain ⟨q, hq⟩ := Go.Deep.choose_lt each
  refine ⟨(List.range 16).map q, ?_, by simp, fun y hy => ?_⟩
  · refine List.ext_getElem? (fun i => ?_)
    by_cases hi : i < 16
    · rw [(hq i hi).1]
      simp [bs, hi]
    · rw [List.getElem?_eq_none (by omega), List.getElem?_eq_none (by simp [bs]; omega)]
  · simp only [List.mem_map, List.mem_range] at hy
    obtain ⟨i, hi, rfl⟩ := hy
    exact (hq i hi).2
theorem open_pre {H : Type} {enc : TypeId × Value → H} {W : World} {fuel : Nat} {cs : List Value} {x : DataW H × List MemPlace}
    (h : DataW.trod enc Try.prog W 0 (fun _ => true) true fuel 29 cs = some x) : ∃ p : PreI, cs = preC p ∧ p.B := by
  obtain ⟨ys, k, _, _, hl, hyl, hg⟩ := DataW.trod_struct Try.underlying29 h
  have hl18 : cs.length = 18 := hl.trans (by kernel_rfl)
  have g0 := hg 0 _ rfl
  have g1 := hg 1 _ rfl
  have g2 := hg 2 _ rfl
  have e3 : Try.prog.cellsOf 3 = 1 := by kernel_rfl
  have e4 : Try.prog.cellsOf 27 = 16 := by kernel_rfl
  simp [e3, e4] at g0 g1 g2
  obtain ⟨a, ea, _, wa⟩ := DataW.trod_int Try.underlying3 (g0.trans (List.getElem?_eq_getElem (by rw [hyl]; decide)))
  obtain ⟨b, eb, _, wb⟩ := DataW.trod_int Try.underlying3 (g1.trans (List.getElem?_eq_getElem (by rw [hyl]; decide)))
  obtain ⟨ad, ec, hc1, hc2⟩ := open_ad (g2.trans (List.getElem?_eq_getElem (by rw [hyl]; decide)))
  have ba := bounds_i64 wa
  have bb := bounds_i64 wb
  refine ⟨⟨a, b, ad⟩, ?_, by simp only; omega, by simp only; omega, hc1, hc2⟩
  unfold preC
  cases cs with
  | nil => simp at hl18
  | cons u cs =>
    cases cs with
    | nil => simp at hl18
    | cons v r =>
      have hr : r.length = 16 := by simp only [List.length_cons] at hl18; omega
      have h1 : u = .int .i64 a := by simpa using ea
      have h2 : v = .int .i64 b := by simpa using eb
      have h3 : r = bs ad := by rw [← ec]; exact (List.take_of_length_le (by show r.length ≤ 16; omega)).symm
      rw [h1, h2, h3]
theorem open_rt {H : Type} {enc : TypeId × Value → H} {W : World} {fuel : Nat} {cs : List Value} {x : DataW H × List MemPlace}
    (h : DataW.trod enc Try.prog W 0 (fun _ => true) true fuel 31 cs = some x) : ∃ r : RtI, cs = rtC r ∧ r.B := by
  obtain ⟨ys, k, _, _, hl, hyl, hg⟩ := DataW.trod_struct Try.underlying31 h
  have hl19 : cs.length = 19 := hl.trans (by kernel_rfl)
  have g0 := hg 0 _ rfl
  have g1 := hg 1 _ rfl
  have e3 : Try.prog.cellsOf 26 = 1 := by kernel_rfl
  have e4 : Try.prog.cellsOf 29 = 18 := by kernel_rfl
  simp [e3, e4] at g0 g1
  obtain ⟨a, ea, _, wa⟩ := DataW.trod_int Try.underlying26 (g0.trans (List.getElem?_eq_getElem (by rw [hyl]; decide)))
  obtain ⟨p, ep, hp⟩ := open_pre (g1.trans (List.getElem?_eq_getElem (by rw [hyl]; decide)))
  have ba := bounds_u32 wa
  refine ⟨⟨a, p⟩, ?_, by simp only; omega, hp⟩
  unfold rtC
  cases cs with
  | nil => simp at hl19
  | cons u r =>
    simp at ea ep
    subst ea
    congr 1
    rw [← ep, List.take_of_length_le (by simp at hl19; omega)]

theorem open_arg22 {H : Type} {enc : TypeId × Value → H} {W : World} {A : Option Addr} {n c : Nat} {d : DataW H} {p : List MemPlace}
    (h : DataW.Trod enc Try.prog W 0 (fun _ => true) true 22 (.slice A n c) d p) : ∃ xs, InRts W A n c xs := by
  obtain ⟨fuel, hf⟩ := h
  obtain ⟨A', n', c', hcs, h1, h2, xs, h3, h4⟩ := open_sl (α := RtI) Try.underlying22 19 (by kernel_rfl) (fun _ x cs => cs = rtC x ∧ x.B) (fun fuel cs x hx => open_rt hx) hf
  simp [Value.cells] at hcs
  obtain ⟨rfl, rfl, rfl⟩ := hcs
  refine ⟨xs, h3, h1, h2, fun hn => ?_, fun x hx => ?_⟩
  · obtain ⟨ad, e, hc⟩ := h4 hn
    refine ⟨ad, e, fun j x hx => ?_⟩
    obtain ⟨cs, q1, q2, q3⟩ := hc j x hx
    exact ⟨cs, q1, q2.1, q3⟩
  · obtain ⟨i, hi, e⟩ := List.getElem_of_mem hx
    obtain ⟨ad, cs, _, _, q2, _⟩ := h4.at (List.getElem?_eq_getElem hi)
    rw [e] at q2
    exact q2.2

end Go.Proofs.Ytkkfigdfgagimaa
