/- New: its contract. -/
import Derived.Test.YtjcmgfegnngjjaaDoorRd
import Derived.Test.YtjcmgfegnngjjaaDoorClone
namespace Go.Proofs.YtjcmgfegnngjjaaDoor
open Go.RowKit
set_option linter.unusedVariables false
set_option linter.unusedSimpArgs false

/-! ### New -/

/-- What 'New' leaves: a reader in a new block, of bytes of its own. -/
def Made (w : World) (ys : List Int) (e : Ending) (w' : World) : Prop :=
  ∃ q r, e = .returned (.pointer (some ⟨r, 0, none⟩)) ∧ w.heap.size ≤ r ∧ w.heap.size ≤ q ∧ (ys ≠ [] → q ≠ r) ∧ Rd w' q r ys 0 ∧ Kp NoB w w'

set_option maxHeartbeats 1000000 in
theorem new_any (A : Option Addr) (c : Nat) (ys : List Int) (w : World) (hn : ys.length ≤ 140737488355328) (ha : Arr w A (bs ys)) (hb : IsB ys) :
    Calls Tryd.prog 69 #[.slice A ys.length c] w (Made w ys) := by
  have hclone := fun (w : World) (ha : Arr w A (bs ys)) => clone_any A c ys w hn ha
  have HL := Lib.hid hclone
  clear hclone
  go_enter Tryd.func69, Tryd.ntmps69
  go_wp2_with (go_at_call 74; refine (HL.out _ ha).mono ?_; rintro e w1 ⟨A', c', rfl, hown, hK⟩)
  go_ret
  have hs := hK.size
  obtain ⟨A2, c2, he, g1, g2, harr⟩ := own_form hown
  injection he with e1 _ e3
  subst e1 e3
  have hlt := hown.lt
  have hne : ys ≠ [] → blkOr A' w.heap.size ≠ w1.heap.size ∧ ∀ ad, A' = some ad → ad.block = blkOr A' w.heap.size := by
    intro hy
    obtain ⟨ad, rfl, _⟩ := harr (by simpa [bs] using hy)
    have := (hlt _ rfl).2
    refine ⟨by simp only [blkOr]; omega, fun ad' e => ?_⟩
    cases e
    rfl
  refine ⟨blkOr A' w.heap.size, w1.heap.size, rfl, by omega, ?_, fun hy => (hne hy).1, ⟨A', c', Bk.fresh _ _ _, g1, g2, harr.alloc _, hne, by omega, hb⟩, hK.alloc _⟩
  cases A' with
  | none => exact Nat.le_refl _
  | some ad => exact (hlt _ rfl).1

end Go.Proofs.YtjcmgfegnngjjaaDoor
