/- The reference's Big: its contract. -/
import Derived.Test.YtjcmgfegnngjjaaDoorMem
import Derived.Test.YtjcmgfegnngjjaaDoorPlain
import Derived.Test.YtjcmgfegnngjjaaDoorProg
import Derived.KernelRfl
import Derived.Deep.QuietTactic
import Derived.BigQuiet
import Derived.WalkSpells
namespace Go.Proofs.YtjcmgfegnngjjaaDoor
open Go.RowKit
set_option linter.unusedVariables false
set_option linter.unusedSimpArgs false

set_option maxHeartbeats 1000000 in
theorem rbig_any (A : Option Addr) (c : Nat) (xs : List Int) (w : World) (ha : Arr w A (bs xs)) (hb : IsB xs) (hn : xs.length ≤ 4) :
    Calls Tryd.prog 24 #[.slice A xs.length c] w fun e w' => e = .returned (.int .u32 (big xs)) ∧ w' = w := by
  go_enter Tryd.func24, Tryd.ntmps24
  go_wp2
  go_loop [3, 4] (fun x i => ∃ j : Nat, j ≤ xs.length ∧ i = .int .i64 j ∧ x = .int .u32 (big (xs.take j))) (fun _ i => xs.length - (intOf i).toNat)
  case atStart => exact ⟨0, Nat.zero_le _, rfl, rfl⟩
  case round =>
    obtain ⟨j, hj, rfl, rfl⟩ := hrel
    by_cases hlt : j < xs.length
    · obtain ⟨ad, rfl, hcell⟩ := ha.at (bs_get xs j hlt)
      obtain ⟨y, hy⟩ : ∃ y, xs.getD j 0 = y := ⟨_, rfl⟩
      have hb1 := big_small (xs.take j) (hb.take j) (by simp; omega)
      have hb2 := hb.getD j
      have hbs := big_take_succ xs j hlt
      rw [hy] at hcell hb2 hbs
      have HS := Lib.hid hbs
      clear hbs hy
      go_wp2
      go_round
      case rel => exact ⟨j + 1, by omega, by go_num, by rw [HS.out]⟩
      case measure => simp [intOf]; omega
    · have hj : j = xs.length := by omega
      subst hj
      go_wp2
      go_ret
      exact ⟨rfl, rfl⟩

end Go.Proofs.YtjcmgfegnngjjaaDoor
