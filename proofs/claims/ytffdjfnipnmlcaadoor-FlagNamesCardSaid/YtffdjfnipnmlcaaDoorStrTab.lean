/- Listed tables of strings: what their cells hold. No program. No condition. -/
import Derived.Test.YtffdjfnipnmlcaaDoorMem
import Derived.Test.YtffdjfnipnmlcaaDoorNotP
import Derived.LaidLaws
import Derived.OpenShut
import Derived.ChangeArms
import Derived.Lib.LaidTab
namespace Go.Proofs.YtffdjfnipnmlcaaDoor
open Go.RowKit

section
variable {H : Type} {enc : TypeId × Value → H} {P : Program} {w : World} {base : Nat} {sp : Nat → Bool} {held : Bool} {fuel : Nat} {p : List MemPlace}

/-- A string as a value. -/
def strV (l : List UInt8) : Value := .string (ba l)
theorem strV_of {s : ByteArray} {l : List UInt8} (h : s.data.toList = l) : (Value.string s) = strV l := by
  subst h
  rfl

theorem cells_of_strs {t e : TypeId} {n : Nat} {cs : List Value} {bss : List (List UInt8)} (ht : P.underlying t = some (.array n e)) (he : P.underlying e = some .string) (hce : P.cellsOf e = 1) (hct : P.cellsOf t = n)
    (h : DataW.trod enc P w base sp held fuel t cs = some (.agg (bss.map fun b => .lit (.string b)), p)) : cs = bss.map strV := by
  obtain ⟨xs, m, _, hx, hl, hxl, hg⟩ := DataW.trod_array ht h
  rw [hct] at hl
  have hxs : xs.map (·.1) = bss.map fun b => (DataW.lit (.string b) : DataW H) := by
    have := congrArg Prod.fst hx
    simpa using this.symm
  have hbl : bss.length = n := by
    have := congrArg List.length hxs
    simp at this
    omega
  apply List.ext_getElem?
  intro i
  by_cases hi : i < n
  · have g := hg i hi
    rw [hce, Nat.mul_one, List.getElem?_eq_getElem (by omega)] at g
    obtain ⟨s, hc, hy, _⟩ := DataW.trod_string he g
    have h1 : cs[i]? = some (.string s) := by
      have := congrArg (·[0]?) hc
      simpa [List.getElem?_take, List.getElem?_drop] using this
    have h2 : (xs.map (·.1))[i]? = some (DataW.lit (.string s.data.toList) : DataW H) := by simp [hxl, hi, hy]
    rw [hxs] at h2
    simp only [List.getElem?_map, Option.map_eq_some_iff, DataW.lit.injEq, Lit.string.injEq] at h2
    obtain ⟨b, hb, e⟩ := h2
    rw [h1, List.getElem?_map, hb]
    exact congrArg some (strV_of e.symm)
  · rw [List.getElem?_eq_none (by omega), List.getElem?_eq_none (by simp; omega)]

theorem cells_of_grid {t r e : TypeId} {n k : Nat} {cs : List Value} {rows : List (List (List UInt8))} (ht : P.underlying t = some (.array n r)) (hr : P.underlying r = some (.array k e)) (he : P.underlying e = some .string) (hce : P.cellsOf e = 1) (hcr : P.cellsOf r = k)
    (h : DataW.trod enc P w base sp held fuel t cs = some (.agg (rows.map fun bss => .agg (bss.map fun b => .lit (.string b))), p)) : ∀ i bss, rows[i]? = some bss → (cs.drop (i * k)).take k = bss.map strV := by
  obtain ⟨xs, m, _, hx, hl, hxl, hg⟩ := DataW.trod_array ht h
  have hxs : xs.map (·.1) = rows.map fun bss => (DataW.agg (bss.map fun b => .lit (.string b)) : DataW H) := by
    have := congrArg Prod.fst hx
    simpa using this.symm
  have hbl : rows.length = n := by
    have := congrArg List.length hxs
    simp at this
    omega
  intro i bss hb
  have hi : i < n := by have := (List.getElem?_eq_some_iff.1 hb).1; omega
  have g := hg i hi
  rw [hcr, List.getElem?_eq_getElem (by omega)] at g
  have h2 : (xs.map (·.1))[i]? = some (DataW.agg (bss.map fun b => .lit (.string b)) : DataW H) := by rw [hxs, List.getElem?_map, hb]; rfl
  have h3 : (xs[i]'(by omega)).1 = DataW.agg (bss.map fun b => .lit (.string b)) := by simpa [hxl, hi] using h2
  rw [show xs[i]'(by omega) = (DataW.agg (bss.map fun b => .lit (.string b)), (xs[i]'(by omega)).2) from Prod.ext h3 rfl] at g
  exact cells_of_strs hr he hce hcr g
end

end Go.Proofs.YtffdjfnipnmlcaaDoor
