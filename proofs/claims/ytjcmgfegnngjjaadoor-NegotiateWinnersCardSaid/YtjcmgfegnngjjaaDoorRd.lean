/- What a reader of package octet is in memory. -/
import Derived.Test.YtjcmgfegnngjjaaDoorMem
import Derived.Test.YtjcmgfegnngjjaaDoorPlain
import Derived.Test.YtjcmgfegnngjjaaDoorProg
import Derived.KernelRfl
import Derived.Deep.QuietTactic
import Derived.BigQuiet
import Derived.WalkSpells
namespace Go.Proofs.YtjcmgfegnngjjaaDoor
open Go.RowKit
set_option linter.unusedVariables false
set_option linter.unusedSimpArgs false

/-! ### Readers -/

/-- A reader lies in block r: its bytes ys (in block q), its offset t. -/
def Rd (w : World) (q r : Nat) (ys : List Int) (t : Nat) : Prop :=
  ∃ A c, Bk w r 130 #[.slice A ys.length c, .int .i64 t] ∧ ys.length ≤ c ∧ c ≤ 9223372036854775807 ∧ Arr w A (bs ys) ∧ (ys ≠ [] → q ≠ r ∧ ∀ ad, A = some ad → ad.block = q) ∧ t + ys.length ≤ 140737488355328 ∧ IsB ys

theorem Rd.lt {w : World} {q r : Nat} {ys : List Int} {t : Nat} (h : Rd w q r ys t) : r < w.heap.size := by
  obtain ⟨A, c, hB, _⟩ := h
  exact hB.lt
theorem Rd.lt_q {w : World} {q r : Nat} {ys : List Int} {t : Nat} (h : Rd w q r ys t) : ys ≠ [] → q < w.heap.size := by
  obtain ⟨A, c, _, _, _, h3, h4, _⟩ := h
  intro hy
  have hne : bs ys ≠ [] := by simpa [bs] using hy
  obtain ⟨ad, e, _⟩ := h3 hne
  have := h3.lt hne ad e
  rwa [(h4 hy).2 ad e] at this
theorem Rd.ne {w : World} {q r : Nat} {ys : List Int} {t : Nat} (h : Rd w q r ys t) : ys ≠ [] → q ≠ r := by
  obtain ⟨A, c, _, _, _, _, h4, _⟩ := h
  exact fun hy => (h4 hy).1
theorem Rd.bd {w : World} {q r : Nat} {ys : List Int} {t : Nat} (h : Rd w q r ys t) : t + ys.length ≤ 140737488355328 := by
  obtain ⟨A, c, _, _, _, _, _, h5, _⟩ := h
  exact h5
theorem Rd.isB {w : World} {q r : Nat} {ys : List Int} {t : Nat} (h : Rd w q r ys t) : IsB ys := by
  obtain ⟨A, c, _, _, _, _, _, _, h6⟩ := h
  exact h6
theorem Rd.keep {S : Nat → Prop} {w w' : World} {q r : Nat} {ys : List Int} {t : Nat} (h : Rd w q r ys t) (k : Kp S w w') (hr : ¬ S r) (hq : ys ≠ [] → ¬ S q) : Rd w' q r ys t := by
  obtain ⟨A, c, hB, h1, h2, h3, h4, h5, h6⟩ := h
  by_cases hy : ys = []
  · subst hy
    exact ⟨A, c, hB.keep k hr, h1, h2, Arr.nil _ _, h4, h5, h6⟩
  · exact ⟨A, c, hB.keep k hr, h1, h2, h3.keep k (fun ad e => by rw [(h4 hy).2 ad e]; exact hq hy), h4, h5, h6⟩
theorem Rd.and {w w' : World} {q r : Nat} {ys : List Int} {t : Nat} (h : Rd w q r ys t) (k : Kp NoB w w') : Rd w' q r ys t := h.keep k (fun q => q) (fun _ q => q)

theorem Rd.cut {w w' : World} {q r : Nat} {ys : List Int} {t k c : Nat} {A : Option Addr} (hk : k ≤ ys.length) (h1 : ys.length ≤ c) (h2 : c ≤ 9223372036854775807) (h3 : Arr w A (bs ys)) (h4 : ys ≠ [] → q ≠ r ∧ ∀ ad, A = some ad → ad.block = q) (h5 : t + ys.length ≤ 140737488355328) (h6 : IsB ys)
    (hB : Bk w' r 130 #[.slice (cutA A k c) (ys.length - k) (c - k), .int .i64 (t + k : Int)]) (hK : Kp (OnB r) w w') : Rd w' q r (ys.drop k) (t + k) := by
  refine ⟨cutA A k c, c - k, ?_, ?_, ?_, ?_, ?_, ?_, h6.drop k⟩
  · rw [List.length_drop]
    simpa using hB
  · rw [List.length_drop]; omega
  · omega
  · rw [bs_drop]
    by_cases hy : ys = []
    · subst hy
      simpa [bs] using Arr.nil _ _
    · exact (h3.keep hK (fun ad e => by rw [(h4 hy).2 ad e]; exact (h4 hy).1)).drop (by rw [bs_length]; exact h1)
  · intro hd
    obtain ⟨g1, g2⟩ := h4 (by rintro rfl; simp at hd)
    refine ⟨g1, fun ad e => ?_⟩
    obtain ⟨a, ha, hb⟩ := cutA_block _ _ _ _ e
    rw [hb]
    exact g2 a ha
  · rw [List.length_drop]; omega

/-- Is there a number of k bytes in front? -/
def numB (k : Int) (ys : List Int) : Bool := decide (1 ≤ k ∧ k ≤ 4 ∧ k ≤ (ys.length : Int))
/-- The number of k bytes in front, or 0. -/
def numV (k : Int) (ys : List Int) : Int := if numB k ys then big (ys.take k.toNat) else 0
/-- How many bytes it takes. -/
def numN (k : Int) (ys : List Int) : Nat := if numB k ys then k.toNat else 0

end Go.Proofs.YtjcmgfegnngjjaaDoor
