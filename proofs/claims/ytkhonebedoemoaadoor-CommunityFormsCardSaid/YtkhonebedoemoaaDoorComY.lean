/- What bytes of numbers are read as. No condition. -/
import Derived.Test.YtkhonebedoemoaaDoorComX
namespace Go.Proofs.YtkhonebedoemoaaDoor
open Go.RowKit
set_option linter.unusedVariables false
set_option linter.unusedSimpArgs false

theorem own_parts {W : World} {base n c : Nat} {e : TypeId} {size : Nat} {A : Option Addr} {xs : List Value} (h : W.ownsRow base e size (.slice A n c) n xs) : n ≤ c ∧ c ≤ maxLen ∧ Arr W A xs := by
  obtain ⟨A', c', he, h1, h2, h3⟩ := own_form h
  injection he with e1 _ e3
  subst e1 e3
  exact ⟨h1, h2, h3⟩
theorem nums_bytes (xs : List Int) (hu : IsU xs) : numsU (bytesU xs) xs.length = xs := by
  refine List.ext_getElem? (fun q => ?_)
  unfold numsU
  rw [List.getElem?_map]
  by_cases hq : q < xs.length
  · rw [List.getElem?_range hq, List.getElem?_eq_getElem hq]
    simp only [Option.map_some]
    have hpl : ∀ y ∈ partsU xs, y.length = 4 := fun y hy => by
      obtain ⟨x, _, rfl⟩ := List.mem_map.1 hy
      exact putL_length 4 x
    have hc := chunk_flat (partsU xs) q (putL 4 xs[q]) hpl (by simp [partsU, hq])
    unfold chunkN at hc
    rw [Nat.mul_comm]
    have hb := hu xs[q] (List.getElem_mem hq)
    show some (big (((bytesU xs).drop (q * 4)).take 4)) = _
    rw [show bytesU xs = (partsU xs).flatten from rfl, hc, big_putL 4 _ hb.1 (by simpa using hb.2)]
  · rw [List.getElem?_eq_none (by simpa using hq), List.getElem?_eq_none (by omega)]
    rfl
/-- Whole groups of a type. -/
def wholeU (k : Int) (n : Nat) : Bool := decide (n % grp k = 0)
theorem rd_bytes {k : Int} (hk : 0 < grp k) {xs : List Int} (hn : 0 < xs.length) (hu : IsU xs) :
    rdK k (bytesU xs) = (if wholeU k xs.length = true then k else 0) ∧ rdL k (bytesU xs) = (if wholeU k xs.length = true then xs else []) ∧ rdV k (bytesU xs) = (if wholeU k xs.length = true then 0 else 2) := by
  have hl : (bytesU xs).length / 4 = xs.length := by rw [bytesU_len]; omega
  have hr : readOk k (bytesU xs) = wholeU k xs.length := by
    unfold readOk wholeU
    rw [hl, bytesU_len, decide_eq_true (show 4 * xs.length % 4 = 0 by omega), Bool.true_and]
    cases hd : decide (xs.length % grp k = 0) with
    | true => exact zU_valid false none 0 hk hn (of_decide_eq_true hd)
    | false =>
      have := of_decide_eq_false hd
      simp [validC, zU, this]
  unfold rdK rdL rdV
  rw [hr, hl, nums_bytes xs hu]
  exact ⟨rfl, rfl, rfl⟩

end Go.Proofs.YtkhonebedoemoaaDoor
