/- open.timed, open.Valid: contracts by walking the Go text. -/
import Derived.Test.YtjcmgfegnngjjaaDoorSysB
import Derived.Test.YtjcmgfegnngjjaaDoorCapJ
namespace Go.Proofs.YtjcmgfegnngjjaaDoor
open Go.RowKit
set_option linter.unusedVariables false
set_option linter.unusedSimpArgs false

theorem Bk.four {w : World} {b : Nat} {t : TypeId} {u v x y : Value} (h : Bk w b t #[u, v, x, y]) : w.cell? ⟨b, 0, none⟩ = some u ∧ w.cell? ⟨b, 1, none⟩ = some v ∧ w.cell? ⟨b, 2, none⟩ = some x ∧ w.cell? ⟨b, 3, none⟩ = some y ∧ w.frozen? ⟨b, 0, none⟩ = false ∧ w.frozen? ⟨b, 1, none⟩ = false ∧ w.frozen? ⟨b, 2, none⟩ = false ∧ w.frozen? ⟨b, 3, none⟩ = false ∧ b < w.heap.size :=
  ⟨h.cell 0, h.cell 1, h.cell 2, h.cell 3, h.frozen 0, h.frozen 1, h.frozen 2, h.frozen 3, h.lt⟩

/-- An OPEN. -/
structure OpenI where
  sys : Int
  hold : Int
  id : Int
  caps : List CapI
deriving DecidableEq
def OpenI.B (o : OpenI) : Prop := (0 ≤ o.sys ∧ o.sys ≤ 4294967295) ∧ (-9223372036854775808 ≤ o.hold ∧ o.hold ≤ 9223372036854775807) ∧ (0 ≤ o.id ∧ o.id ≤ 4294967295)
def OpenI.val (o : OpenI) (A : Option Addr) (c : Nat) : Value := .agg #[.int .u32 o.sys, .int .i64 o.hold, .int .u32 o.id, .slice A o.caps.length c]

def timedB (h : Int) : Bool := decide (h = 0 ∨ 3 ≤ h ∧ h ≤ 65535)

def validO (o : OpenI) : Bool :=
  validB o.caps && decide ((formC o.caps).length ≤ 253) && decide (o.sys ≠ 0) && decide (o.id ≠ 0) && timedB o.hold && (if sysB o.caps then decide (sysV o.caps = o.sys) else decide (o.sys ≤ 65535))

end Go.Proofs.YtjcmgfegnngjjaaDoor
