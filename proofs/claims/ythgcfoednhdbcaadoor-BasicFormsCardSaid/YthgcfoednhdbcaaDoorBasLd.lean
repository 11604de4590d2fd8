/- What chapter 7's rows ask of the world: the table of powers of ten. No condition. -/
import Derived.Test.YthgcfoednhdbcaaDoorBasI
import Derived.Test.YthgcfoednhdbcaaDoorRows
import Derived.Stop.LaidErr
import Derived.MakeChecks
namespace Go.Proofs.YthgcfoednhdbcaaDoor
open Go.RowKit

/-- What the rows' condition gives. -/
structure Ld (w : World) : Prop where
  tb : Tb w
theorem Ld.and {w w' : World} (h : Ld w) (k : Kp NoB w w') : Ld w' := ⟨h.tb.and k⟩
theorem ld_of {W : World} (h : laidMetH Tryd.prog Rows.basicPlainRow.laid W) : Ld W := by
  rw [MakeChecks.laidMetH_plain _ _ _ (by kernel_rfl)] at h
  exact ⟨tb_of (laidMet.tail (laidMet.tail h)) (by kernel_rfl)⟩

end Go.Proofs.YthgcfoednhdbcaaDoor
