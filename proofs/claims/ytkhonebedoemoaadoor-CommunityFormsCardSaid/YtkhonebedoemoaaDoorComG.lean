/- slices.Chunk and community.groups: the iterators they return. No condition. -/
import Derived.Test.YtkhonebedoemoaaDoorComF
namespace Go.Proofs.YtkhonebedoemoaaDoor
open Go.RowKit
set_option linter.unusedVariables false
set_option linter.unusedSimpArgs false

set_option maxRecDepth 100000 in
set_option maxHeartbeats 800000 in
theorem chunk_any (A : Option Addr) (n c G : Nat) (hG : 1 ≤ G) (w : World) : Calls Tryd.prog 47 #[.slice A n c, .int .i64 G] w fun e w' =>
    e = .returned (.func (.func 58) #[] #[.pointer (some ⟨w.heap.size, 0, none⟩), .pointer (some ⟨w.heap.size + 1, 0, none⟩)]) ∧ Bk w' w.heap.size 24 #[.slice A n c] ∧ Bk w' (w.heap.size + 1) 3 #[.int .i64 G] ∧ Kp NoB w w' := by
  have h1 : ¬ (G : Int) < 1 := by omega
  go_enter Tryd.func47, Tryd.ntmps47
  go_wp2
  go_ret
  exact ⟨rfl, (Bk.fresh w _ _).alloc _, Bk.second w _ _ _, ((Kp.refl NoB w).alloc _).alloc _⟩

set_option maxRecDepth 100000 in
set_option maxHeartbeats 800000 in
theorem groups_any (z : AtI) (w : World) : Calls Tryd.prog 31 #[z.val] w fun e w' =>
    e = .returned (.func (.func 46) #[] #[.pointer (some ⟨w.heap.size, 0, none⟩)]) ∧ Bk w' w.heap.size 28 z.cs ∧ Kp NoB w w' := by
  unfold AtI.val AtI.cs
  go_enter Tryd.func31, Tryd.ntmps31
  go_wp2
  go_ret
  exact ⟨rfl, Bk.fresh w _ _, (Kp.refl NoB w).alloc _⟩

end Go.Proofs.YtkhonebedoemoaaDoor
