/- Facts of the type uint8. -/
import Derived.Test.YtffdjfnipnmlcaaDoorMem
import Derived.Test.YtffdjfnipnmlcaaDoorPlain
import Derived.Test.YtffdjfnipnmlcaaDoorProg
import Derived.KernelRfl
import Derived.Deep.QuietTactic
import Derived.BigQuiet
import Derived.WalkSpells
namespace Go.Proofs.YtffdjfnipnmlcaaDoor
open Go.RowKit
set_option linter.unusedVariables false
set_option linter.unusedSimpArgs false

theorem infoU8 : (Tryd.prog.info? 5).map (fun i => (i.zero, i.size, i.bytes)) = some (some (.int .u8 0), 1, 1) := by kernel_rfl

end Go.Proofs.YtffdjfnipnmlcaaDoor
