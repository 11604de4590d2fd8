/- The listed table of powers of ten outlives calls that make only new blocks; strconv.Itoa and strconv.FormatUint at base 10: their contracts, by the kit's contracts of what they call. No condition but the table's content. -/
import Derived.Test.YtjcmgfegnngjjaaDoorMem
import Derived.Test.YtjcmgfegnngjjaaDoorProg
import Derived.Test.YtjcmgfegnngjjaaDoorShelf
import Derived.KernelRfl
import Derived.Lib.SmallJoins
import Derived.Lib.ItoaMem
import Derived.Lib.AppendIntMem
import Derived.Lib.Walk
import Derived.BigCall
import Derived.BigGuard
import Derived.CellFam
namespace Go.Proofs.YtjcmgfegnngjjaaDoor
open Go.RowKit Go.Sort
set_option linter.unusedVariables false
set_option linter.unusedSimpArgs false

/-- The table of powers of ten holds what its initialiser lays. -/
def Tb (w : World) : Prop := Lib.TabIs Tryd.prog w "internal/strconv.uint64pow10" .u64 Lib.pow10Tab
theorem pow10_at : Tryd.prog.globalNamed "internal/strconv.uint64pow10" = some 0 := by kernel_rfl
theorem Tb.and {w w' : World} (h : Tb w) (k : Kp NoB w w') : Tb w' := Joins.tab_stays pow10_at h k.below (Nat.le_refl _)
theorem Kp.of_grow (w : World) (k : Nat) (os : Array Obj) : Kp NoB w (grow (w.drewN k) os) := Kp.of_below (Lib.below_grow w.heap.size w (Nat.le_refl _) k os)
theorem tb_of {W : World} {d : DataW Unit} {r : List (String × DataW Unit)} (h : laidMet Tryd.prog (("internal/strconv.uint64pow10", d) :: r) W) (hd : d = Lib.tabData .u64 Lib.pow10Tab) : Tb W := by
  subst hd
  exact Lib.tabIs_of_head pow10_at (by kernel_rfl) Tryd.underlying105 Tryd.underlying91 (by kernel_rfl) (by kernel_rfl) h

theorem itoa_any (n : Int) (h0 : -9223372036854775808 ≤ n) (h1 : n ≤ 9223372036854775807) (w : World) (ht : Tb w) : Calls Tryd.prog 21 #[.int .i64 n] w (Stay (.string ⟨(Lib.itoa n).toArray⟩) w) :=
  (Tryd.strconv_Itoa n h0 h1 w ht).mono fun _ _ ⟨he, k, os, hw⟩ => ⟨he, by rw [hw]; exact Kp.of_grow w k os⟩

end Go.Proofs.YtjcmgfegnngjjaaDoor
