/- Listed tables of strings: what their cells hold. No program. No condition.  strings.Join over a row of the call's own: its contract, by the kit's contract. No condition but bounds. -/
import Derived.Test.YtilfheociidloaaDoorMem
import Derived.Test.YtilfheociidloaaDoorNotP
import Derived.LaidLaws
import Derived.OpenShut
import Derived.ChangeArms
import Derived.Lib.LaidTab
import Derived.Test.YtilfheociidloaaDoorApp
import Derived.Test.YtilfheociidloaaDoorFu10
namespace Go.Proofs.YtilfheociidloaaDoor
open Go.RowKit

section
variable {H : Type} {enc : TypeId × Value → H} {P : Program} {w : World} {base : Nat} {sp : Nat → Bool} {held : Bool} {fuel : Nat} {p : List MemPlace}

/-- A string as a value. -/
def strV (l : List UInt8) : Value := .string (ba l)
theorem strV_of {s : ByteArray} {l : List UInt8} (h : s.data.toList = l) : (Value.string s) = strV l := by
  subst h
  rfl

theorem cells_of_strs {t e : TypeId} {n : Nat} {cs : List Value} {bss : List (List UInt8)} (ht : P.underlying t = some (.array n e)) (he : P.underlying e = some .string) (hce : P.cellsOf e = 1) (hct : P.cellsOf t = n)
    (h : DataW.trod enc P w base sp held fuel t cs = some (.agg (bss.map fun b => .lit (.string b)), p)) : cs = bss.map strV := by
  obtain ⟨xs, m, _, hx, hl, hxl, hg⟩ := DataW.trod_array ht h
  rw [hct] at hl
  have hxs : xs.map (·.1) = bss.map fun b => (DataW.lit (.string b) : DataW H) := by
    have := congrArg Prod.fst hx
    simpa using this.symm
  have hbl : bss.length = n := by
    have := congrArg List.length hxs
    simp at this
    omega
  apply List.ext_getElem?
  intro i
  by_cases hi : i < n
  · have g := hg i hi
    rw [hce, Nat.mul_one, List.getElem?_eq_getElem (by omega)] at g
    obtain ⟨s, hc, hy, _⟩ := DataW.trod_string he g
    have h1 : cs[i]? = some (.string s) := by
      have := congrArg (·[0]?) hc
      simpa [List.getElem?_take, List.getElem?_drop] using this
    have h2 : (xs.map (·.1))[i]? = some (DataW.lit (.string s.data.toList) : DataW H) := by simp [hxl, hi, hy]
    rw [hxs] at h2
    simp only [List.getElem?_map, Option.map_eq_some_iff, DataW.lit.injEq, Lit.string.injEq] at h2
    obtain ⟨b, hb, e⟩ := h2
    rw [h1, List.getElem?_map, hb]
    exact congrArg some (strV_of e.symm)
  · rw [List.getElem?_eq_none (by omega), List.getElem?_eq_none (by simp; omega)]

theorem cells_of_grid {t r e : TypeId} {n k : Nat} {cs : List Value} {rows : List (List (List UInt8))} (ht : P.underlying t = some (.array n r)) (hr : P.underlying r = some (.array k e)) (he : P.underlying e = some .string) (hce : P.cellsOf e = 1) (hcr : P.cellsOf r = k)
    (h : DataW.trod enc P w base sp held fuel t cs = some (.agg (rows.map fun bss => .agg (bss.map fun b => .lit (.string b))), p)) : ∀ i bss, rows[i]? = some bss → (cs.drop (i * k)).take k = bss.map strV := by
  obtain ⟨xs, m, _, hx, hl, hxl, hg⟩ := DataW.trod_array ht h
  have hxs : xs.map (·.1) = rows.map fun bss => (DataW.agg (bss.map fun b => .lit (.string b)) : DataW H) := by
    have := congrArg Prod.fst hx
    simpa using this.symm
  have hbl : rows.length = n := by
    have := congrArg List.length hxs
    simp at this
    omega
  intro i bss hb
  have hi : i < n := by have := (List.getElem?_eq_some_iff.1 hb).1; omega
  have g := hg i hi
  rw [hcr, List.getElem?_eq_getElem (by omega)] at g
  have h2 : (xs.map (·.1))[i]? = some (DataW.agg (bss.map fun b => .lit (.string b)) : DataW H) := by rw [hxs, List.getElem?_map, hb]; rfl
  have h3 : (xs[i]'(by omega)).1 = DataW.agg (bss.map fun b => .lit (.string b)) := by simpa [hxl, hi] using h2
  rw [show xs[i]'(by omega) = (DataW.agg (bss.map fun b => .lit (.string b)), (xs[i]'(by omega)).2) from Prod.ext h3 rfl] at g
  exact cells_of_strs hr he hce hcr g
end

end Go.Proofs.YtilfheociidloaaDoor

namespace Go.Proofs.YtilfheociidloaaDoor
open Go.RowKit
set_option linter.unusedVariables false
set_option linter.unusedSimpArgs false

theorem infoStr : (Tryd.prog.info? 9).map (fun i => (i.zero, i.size, i.bytes)) = some (some (.string ⟨#[]⟩), 1, 16) := by kernel_rfl
theorem strV_data (l : List UInt8) : (ba l).data.toList = l := rfl
theorem map_data (ls : List (List UInt8)) : (ls.map ba).map (fun b => b.data.toList) = ls := by
  rw [List.map_map]
  exact List.map_id _
theorem join_any (base c : Nat) (A : Option Addr) (ls : List (List UInt8)) (sep : UInt8) (w : World) (h : w.ownsRow base 9 1 (.slice A ls.length c) ls.length (ls.map strV)) (hN : ls.length ≤ 200000) (hlen : (Lib.join ls [sep]).length ≤ 100000000) :
    Calls Tryd.prog 27 #[.slice A ls.length c, .string ⟨#[sep]⟩] w (Stay (.string (ba (Lib.join ls [sep]))) w) := by
  by_cases h0 : 0 < ls.length
  · obtain ⟨g, rfl, _, hlt, hc, _⟩ := own_at h h0
    obtain ⟨A', c', he, hle, _, _⟩ := own_form h
    injection he with e1 _ e3
    subst e3
    have := Tryd.strings_Join g 0 c (ls.map ba) ⟨#[sep]⟩ w (fun j x hx => by
      rw [Nat.zero_add]
      refine hc j _ ?_
      rw [List.getElem?_map] at hx ⊢
      cases hl : ls[j]? with
      | none => rw [hl] at hx; cases hx
      | some l => rw [hl] at hx; cases hx; rfl) hlt (by rw [List.length_map]; omega) (by rw [List.length_map]; exact hle) (by rw [map_data]; exact Nat.le_trans hlen (by decide))
    rw [map_data, List.length_map] at this
    exact this.mono fun e w' ⟨h1, h2⟩ => ⟨h1, Kp.of_below h2⟩
  · have hl : ls = [] := List.length_eq_zero_iff.1 (by omega)
    subst hl
    exact (Tryd.strings_Join_none A c ⟨#[sep]⟩ w).mono fun e w' ⟨h1, h2⟩ => ⟨h1, by rw [h2]; exact Kp.refl _ _⟩

theorem joinTail_len (s : UInt8) (m : Nat) : ∀ r : List (List UInt8), (∀ x ∈ r, x.length ≤ m) → (Lib.joinTail [s] r).length ≤ r.length * (m + 1)
  | [], _ => by simp [Lib.joinTail]
  | x :: r, h => by
    have ih := joinTail_len s m r (fun y hy => h y (by simp [hy]))
    have hx := h x (by simp)
    have e : Lib.joinTail [s] (x :: r) = s :: (x ++ Lib.joinTail [s] r) := by simp [Lib.joinTail]
    rw [e, List.length_cons, List.length_append, List.length_cons, Nat.add_mul, Nat.one_mul]
    omega
theorem join_len (s : UInt8) (m : Nat) (ls : List (List UInt8)) (h : ∀ x ∈ ls, x.length ≤ m) : (Lib.join ls [s]).length ≤ ls.length * (m + 1) := by
  cases ls with
  | nil => simp [Lib.join_nil]
  | cons x r =>
    rw [Lib.join_cons, List.length_append, List.length_cons, Nat.add_mul, Nat.one_mul]
    have h1 := joinTail_len s m r (fun y hy => h y (by simp [hy]))
    have h2 := h x (by simp)
    omega

end Go.Proofs.YtilfheociidloaaDoor
