/- slices.Clone of bytes: its contract. No condition but the length. -/
import Derived.Test.YtjcmgfegnngjjaaDoorMem
import Derived.Test.YtjcmgfegnngjjaaDoorPlain
import Derived.Test.YtjcmgfegnngjjaaDoorProg
import Derived.KernelRfl
import Derived.Deep.QuietTactic
import Derived.BigQuiet
import Derived.WalkSpells
namespace Go.Proofs.YtjcmgfegnngjjaaDoor
open Go.RowKit
set_option linter.unusedVariables false
set_option linter.unusedSimpArgs false

theorem infoU8 : (Tryd.prog.info? 5).map (fun i => (i.zero, i.size, i.bytes)) = some (some (.int .u8 0), 1, 1) := by kernel_rfl

/-- What 'slices.Clone' leaves. -/
def Cloned (w : World) (xs : List Int) (e : Ending) (w' : World) : Prop :=
  ∃ A' c', e = .returned (.slice A' xs.length c') ∧ w'.ownsRow w.heap.size 5 1 (.slice A' xs.length c') xs.length (bs xs) ∧ Kp NoB w w'

set_option maxHeartbeats 400000 in
/-- slices.Clone of bytes: the same bytes in a row of their own. -/
theorem clone_any (A : Option Addr) (c : Nat) (xs : List Int) (w : World) (hn : xs.length ≤ 140737488355328) (ha : Arr w A (bs xs)) :
    Calls Tryd.prog 74 #[.slice A xs.length c] w (Cloned w xs) := by
  obtain ⟨i0, hi, hz0, hz1, hz2⟩ := info_parts infoU8
  cases A with
  | none =>
    have hx : xs = [] := by
      rcases Classical.em (xs = []) with h | h
      · exact h
      · obtain ⟨ad, e, _⟩ := ha (by simpa [bs] using h)
        cases e
    subst hx
    clear hi hz0 hz1 hz2
    have hnil := fun (w : World) n c => Lib.run_eql_slice_nil (P := Tryd.prog) w 43 5 none n c 0 0 Tryd.underlying43
    go_enter Tryd.func74, Tryd.ntmps74
    go_wp2
    go_ret
    exact ⟨none, 0, rfl, World.ownsRow_nil _ _ _ _, Kp.refl _ _⟩
  | some ad =>
    have hnil := fun (w : World) n c => Lib.run_eql_slice_nil (P := Tryd.prog) w 43 5 (some ad) n c 0 0 Tryd.underlying43
    go_enter Tryd.func74, Tryd.ntmps74
    go_wp2_with (at_builtin; refine wpList_app ((Kp.refl NoB w).alloc _) rfl (.tmp 5) (.tmp 6) 43 rfl 5 i0 (.int .u8 0) 1 1 Tryd.underlying43 hi hz0 hz1 hz2 rfl (by decide) _ _ _ rfl (World.ownsRow_made w #[] 0 (Nat.le_refl _) (Nat.zero_le _) rfl) (some ad) xs.length c (bs xs) rfl (by simp [bs]) (ha.alloc _) (bs_one xs) (by omega) (by decide) xs.length (by omega) ?_; intro A' c' w1 hown hk hg hat; clear hg hat)
    go_ret
    exact ⟨A', c', rfl, hown, hk⟩

/-- slices.Clone of nil is nil. -/
theorem clone_nil (n c : Nat) (w : World) : Calls Tryd.prog 74 #[.slice none n c] w (Stay (.slice none 0 0) w) := by
  have hnil := fun (w : World) n c => Lib.run_eql_slice_nil (P := Tryd.prog) w 43 5 none n c 0 0 Tryd.underlying43
  go_enter Tryd.func74, Tryd.ntmps74
  go_wp2
  go_ret
  exact ⟨rfl, Kp.refl _ _⟩

end Go.Proofs.YtjcmgfegnngjjaaDoor
