/- The reference's Take: its contracts. -/
import Derived.Test.YtkkfigdfgagimaaMem
import Derived.Test.YtkkfigdfgagimaaPlain
import Derived.Test.YtkkfigdfgagimaaProg
import Derived.KernelRfl
import Derived.Deep.QuietTactic
import Derived.BigQuiet
import Derived.WalkSpells
namespace Go.Proofs.Ytkkfigdfgagimaa
open Go.RowKit
set_option linter.unusedVariables false
set_option linter.unusedSimpArgs false

/-- A reader of the reference, as a value. -/
def rv (A : Option Addr) (n c : Nat) (t : Int) : Value := .agg #[.slice A n c, .int .i64 t]

def RTakeYes (A : Option Addr) (n c t k : Nat) (w : World) (e : Ending) (w' : World) : Prop :=
  e = .returned (.tuple #[rv (cutA A k c) (n - k) (c - k) (t + k : Int), .slice A k c, .bool true]) ∧ Kp NoB w w'

set_option maxHeartbeats 1000000 in
theorem rtake_yes (A : Option Addr) (n c t k : Nat) (w : World) (hk : k ≤ n) (hn : n ≤ c) (hc : c ≤ 9223372036854775807) (ht : t + n ≤ 140737488355328) :
    Calls Try.prog 58 #[.agg #[.slice A n c, .int .i64 t], .int .i64 k] w (RTakeYes A n c t k w) := by
  by_cases hck : c = k
  all_goals
    first | (have hA : cutA A k c = A := by simp [cutA, hck]) | (have hA : cutA A k c = A.map (·.add k) := by simp [cutA, hck])
    unfold RTakeYes
    rw [hA]
    clear hA
    go_enter Try.func58, Try.ntmps58
    go_wp2
    go_region
    go_wp2
    first | subst hck | skip
    refine bodyPost_ret (by simp [results, Try.results58, go_sem]; rfl) rfl ⟨by simp [rv], ((((Kp.refl _ _).alloc _).alloc _)).drew⟩

theorem rtake_no (A : Option Addr) (n c : Nat) (t k : Int) (w : World) (hk : k < 0 ∨ (n : Int) < k) :
    Calls Try.prog 58 #[.agg #[.slice A n c, .int .i64 t], .int .i64 k] w (Stay (.tuple #[rv A n c t, .slice none 0 0, .bool false]) w) := by
  rcases hk with hk | hk
  all_goals
    go_enter Try.func58, Try.ntmps58
    go_wp2
    refine bodyPost_ret (by simp [results, Try.results58, go_sem]; rfl) rfl ⟨by simp [rv], (((Kp.refl _ _).alloc _).alloc _)⟩

end Go.Proofs.Ytkkfigdfgagimaa
